/- What the functions answer, part 4. -/
import Derived.Test.YtockhdhilemfkaaP3
set_option linter.unusedVariables false
set_option linter.unusedSimpArgs false
set_option linter.defProp false
set_option maxRecDepth 100000
/- What the functions answer, part 4. -/
namespace Go.Proofs.Ytockhdhilemfkaa.AM
open Go Go.Proofs.Ytockhdhilemfkaa Go.Proofs
theorem specJoin_y {H : AH} {pa qa pb qb : Value} {sa da sb db : List Int} (a : AR H pa qa sa da) (b : AR H pb qb sb db) (hok : arrOk (((asR sa da).headD 0 + (asR sb db).headD 0) :: (asR sa da).tail) (da ++ db) = true) : CallsA Try.prog 50 #[.agg #[pa, qa], .agg #[pb, qb]] H fun r H' => Ans1 H H' r (joinA sa da sb db) := by
  have al := a.l1
  have bl := a.l2
  have al2 := b.l1
  have bl2 := b.l2
  obtain ⟨za, zc, zb, zd, rfl, rfl⟩ := a.o1
  obtain ⟨ya, yc, yb, yd, rfl, rfl⟩ := b.o1
  have q := (LX.nil (H := H))
  refine w50 ?_
  unfold k50
  simp -implicitDefEqProofs only [kz, kk0, kk1, kk2, kk3, ↓two_true, ↓two_false, mkv, aggAt, Nat.reduceLeDiff, Nat.reduceSub, Nat.reduceMul, implies_true, Nat.reduceEqDiff, reduceIte, Nat.reduceAdd, Nat.reduceBEq, reduceCtorEq, al26, ap24_24, bd26, bs24_0, bs24_1, fa26_0, fa26_1, ix24, ld3, ld24, ld26, ln24, sn24, sl24, st26]
  refine st_box q fun H1 q1 => ?_
  simp -implicitDefEqProofs only [kz, kk0, kk1, kk2, kk3, ↓two_true, ↓two_false, mkv, aggAt, Nat.reduceLeDiff, Nat.reduceSub, Nat.reduceMul, implies_true, Nat.reduceEqDiff, reduceIte, Nat.reduceAdd, Nat.reduceBEq, reduceCtorEq, al26, ap24_24, bd26, bs24_0, bs24_1, fa26_0, fa26_1, ix24, ld3, ld24, ld26, ln24, sn24, sl24, st26, q1.rd 0 rfl]
  refine st_box q1 fun H2 q2 => ?_
  simp -implicitDefEqProofs only [kz, kk0, kk1, kk2, kk3, ↓two_true, ↓two_false, mkv, aggAt, Nat.reduceLeDiff, Nat.reduceSub, Nat.reduceMul, implies_true, Nat.reduceEqDiff, reduceIte, Nat.reduceAdd, Nat.reduceBEq, reduceCtorEq, al26, ap24_24, bd26, bs24_0, bs24_1, fa26_0, fa26_1, ix24, ld3, ld24, ld26, ln24, sn24, sl24, st26, q2.rd 0 rfl, q2.rd 1 rfl]
  refine st_box q2 fun H3 q3 => ?_
  simp -implicitDefEqProofs only [kz, kk0, kk1, kk2, kk3, ↓two_true, ↓two_false, mkv, aggAt, Nat.reduceLeDiff, Nat.reduceSub, Nat.reduceMul, implies_true, Nat.reduceEqDiff, reduceIte, Nat.reduceAdd, Nat.reduceBEq, reduceCtorEq, al26, ap24_24, bd26, bs24_0, bs24_1, fa26_0, fa26_1, ix24, ld3, ld24, ld26, ln24, sn24, sl24, st26, q3.rd 0 rfl, q3.rd 1 rfl, q3.rd 2 rfl]
  refine st_box q3 fun H4 q4 => ?_
  simp -implicitDefEqProofs only [kz, kk0, kk1, kk2, kk3, ↓two_true, ↓two_false, mkv, aggAt, Nat.reduceLeDiff, Nat.reduceSub, Nat.reduceMul, implies_true, Nat.reduceEqDiff, reduceIte, Nat.reduceAdd, Nat.reduceBEq, reduceCtorEq, al26, ap24_24, bd26, bs24_0, bs24_1, fa26_0, fa26_1, ix24, ld3, ld24, ld26, ln24, sn24, sl24, st26, q4.rd 0 rfl, q4.rd 1 rfl, q4.rd 2 rfl, q4.rd 3 rfl]
  refine st_set q4 0 rfl fun H5 q5 => ?_
  simp only [List.set_cons_zero, List.set_cons_succ] at q5
  simp -implicitDefEqProofs only [kz, kk0, kk1, kk2, kk3, ↓two_true, ↓two_false, mkv, aggAt, Nat.reduceLeDiff, Nat.reduceSub, Nat.reduceMul, implies_true, Nat.reduceEqDiff, reduceIte, Nat.reduceAdd, Nat.reduceBEq, reduceCtorEq, al26, ap24_24, bd26, bs24_0, bs24_1, fa26_0, fa26_1, ix24, ld3, ld24, ld26, ln24, sn24, sl24, st26, q5.rd 0 rfl, q5.rd 1 rfl, q5.rd 2 rfl, q5.rd 3 rfl]
  refine (specOk_ar (a.ext q5.ext)).mono ?_
  rintro _ H6 ⟨rfl, he1⟩
  have q6 := q5.extd he1
  simp -implicitDefEqProofs only [kz, kk0, kk1, kk2, kk3, ↓two_true, ↓two_false, mkv, aggAt, Nat.reduceLeDiff, Nat.reduceSub, Nat.reduceMul, implies_true, Nat.reduceEqDiff, reduceIte, Nat.reduceAdd, Nat.reduceBEq, reduceCtorEq, al26, ap24_24, bd26, bs24_0, bs24_1, fa26_0, fa26_1, ix24, ld3, ld24, ld26, ln24, sn24, sl24, st26, q6.rd 0 rfl, q6.rd 1 rfl, q6.rd 2 rfl, q6.rd 3 rfl]
  refine two_intro (fun u1 => ?_) (fun u1 => ?_)
  ·
    have w1 : arrOk sa da = false := by simpa using u1
    try simp -implicitDefEqProofs only [kz, kk0, kk1, kk2, kk3, ↓two_true, ↓two_false, mkv, aggAt, Nat.reduceLeDiff, Nat.reduceSub, Nat.reduceMul, implies_true, Nat.reduceEqDiff, reduceIte, Nat.reduceAdd, Nat.reduceBEq, reduceCtorEq, al26, ap24_24, bd26, bs24_0, bs24_1, fa26_0, fa26_1, ix24, ld3, ld24, ld26, ln24, sn24, sl24, st26, q6.rd 0 rfl, q6.rd 1 rfl, q6.rd 2 rfl, q6.rd 3 rfl]
    refine st_set q6 1 rfl fun H7 q7 => ?_
    simp only [List.set_cons_zero, List.set_cons_succ] at q7
    simp -implicitDefEqProofs only [kz, kk0, kk1, kk2, kk3, ↓two_true, ↓two_false, mkv, aggAt, Nat.reduceLeDiff, Nat.reduceSub, Nat.reduceMul, implies_true, Nat.reduceEqDiff, reduceIte, Nat.reduceAdd, Nat.reduceBEq, reduceCtorEq, al26, ap24_24, bd26, bs24_0, bs24_1, fa26_0, fa26_1, ix24, ld3, ld24, ld26, ln24, sn24, sl24, st26, q7.rd 0 rfl, q7.rd 1 rfl, q7.rd 2 rfl, q7.rd 3 rfl]
    -- end1
    exact q7.err (by simp [joinA, show (arrOk sa da && arrOk sb db) = false by simp [w1]])
  ·
    have v1 : arrOk sa da = true := by simpa using u1
    try simp -implicitDefEqProofs only [kz, kk0, kk1, kk2, kk3, ↓two_true, ↓two_false, mkv, aggAt, Nat.reduceLeDiff, Nat.reduceSub, Nat.reduceMul, implies_true, Nat.reduceEqDiff, reduceIte, Nat.reduceAdd, Nat.reduceBEq, reduceCtorEq, al26, ap24_24, bd26, bs24_0, bs24_1, fa26_0, fa26_1, ix24, ld3, ld24, ld26, ln24, sn24, sl24, st26, q6.rd 0 rfl, q6.rd 1 rfl, q6.rd 2 rfl, q6.rd 3 rfl]
    refine (specOk_ar (b.ext q6.ext)).mono ?_
    rintro _ H8 ⟨rfl, he2⟩
    have q8 := q6.extd he2
    simp -implicitDefEqProofs only [kz, kk0, kk1, kk2, kk3, ↓two_true, ↓two_false, mkv, aggAt, Nat.reduceLeDiff, Nat.reduceSub, Nat.reduceMul, implies_true, Nat.reduceEqDiff, reduceIte, Nat.reduceAdd, Nat.reduceBEq, reduceCtorEq, al26, ap24_24, bd26, bs24_0, bs24_1, fa26_0, fa26_1, ix24, ld3, ld24, ld26, ln24, sn24, sl24, st26, q8.rd 0 rfl, q8.rd 1 rfl, q8.rd 2 rfl, q8.rd 3 rfl]
    refine two_intro (fun u2 => ?_) (fun u2 => ?_)
    ·
      have w1 : arrOk sb db = false := by simpa using u2
      try simp -implicitDefEqProofs only [kz, kk0, kk1, kk2, kk3, ↓two_true, ↓two_false, mkv, aggAt, Nat.reduceLeDiff, Nat.reduceSub, Nat.reduceMul, implies_true, Nat.reduceEqDiff, reduceIte, Nat.reduceAdd, Nat.reduceBEq, reduceCtorEq, al26, ap24_24, bd26, bs24_0, bs24_1, fa26_0, fa26_1, ix24, ld3, ld24, ld26, ln24, sn24, sl24, st26, q8.rd 0 rfl, q8.rd 1 rfl, q8.rd 2 rfl, q8.rd 3 rfl]
      refine st_set q8 1 rfl fun H9 q9 => ?_
      simp only [List.set_cons_zero, List.set_cons_succ] at q9
      simp -implicitDefEqProofs only [kz, kk0, kk1, kk2, kk3, ↓two_true, ↓two_false, mkv, aggAt, Nat.reduceLeDiff, Nat.reduceSub, Nat.reduceMul, implies_true, Nat.reduceEqDiff, reduceIte, Nat.reduceAdd, Nat.reduceBEq, reduceCtorEq, al26, ap24_24, bd26, bs24_0, bs24_1, fa26_0, fa26_1, ix24, ld3, ld24, ld26, ln24, sn24, sl24, st26, q9.rd 0 rfl, q9.rd 1 rfl, q9.rd 2 rfl, q9.rd 3 rfl]
      -- end2
      exact q9.err (by simp [joinA, show (arrOk sa da && arrOk sb db) = false by simp [w1]])
    ·
      have v2 : arrOk sb db = true := by simpa using u2
      have wa := asR_ok v1
      have wb := asR_ok v2
      have l1a := arrOk_len v1
      have l1b := arrOk_len v2
      have lta : (asR sa da).tail.length ≤ 3 := by simp; omega
      have ltb : (asR sb db).tail.length ≤ 3 := by simp; omega
      obtain ⟨ma1, ma2, ma3⟩ := rowsR_lim wa.1 wa.2.1
      obtain ⟨mb1, mb2, mb3⟩ := rowsR_lim wb.1 wb.2.1
      have hfl : flatD (rowsR (asR sa da) da ++ rowsR (asR sb db) db) = da ++ db := by
        have e1 := rows_flat wa.1 wa.2.1
        have e2 := rows_flat wb.1 wb.2.1
        unfold flatD at *
        rw [List.flatMap_append, e1, e2]
      try simp -implicitDefEqProofs only [kz, kk0, kk1, kk2, kk3, ↓two_true, ↓two_false, mkv, aggAt, Nat.reduceLeDiff, Nat.reduceSub, Nat.reduceMul, implies_true, Nat.reduceEqDiff, reduceIte, Nat.reduceAdd, Nat.reduceBEq, reduceCtorEq, al26, ap24_24, bd26, bs24_0, bs24_1, fa26_0, fa26_1, ix24, ld3, ld24, ld26, ln24, sn24, sl24, st26, q8.rd 0 rfl, q8.rd 1 rfl, q8.rd 2 rfl, q8.rd 3 rfl]
      refine (l5Vector_lx q8 a).mono ?_
      rintro _ H10 ⟨a1, c1, a2, c2, rfl, q10⟩
      simp -implicitDefEqProofs only [kz, kk0, kk1, kk2, kk3, ↓two_true, ↓two_false, mkv, aggAt, Nat.reduceLeDiff, Nat.reduceSub, Nat.reduceMul, implies_true, Nat.reduceEqDiff, reduceIte, Nat.reduceAdd, Nat.reduceBEq, reduceCtorEq, al26, ap24_24, bd26, bs24_0, bs24_1, fa26_0, fa26_1, ix24, ld3, ld24, ld26, ln24, sn24, sl24, st26, q10.rd 2 rfl, q10.rd 3 rfl, q10.rd 4 rfl, q10.rd 5 rfl, q8.rd 0 rfl, q8.rd 1 rfl, q8.rd 2 rfl, q8.rd 3 rfl]
      refine (l5Vector_lx q10 b).mono ?_
      rintro _ H11 ⟨a3, c3, a4, c4, rfl, q11⟩
      simp -implicitDefEqProofs only [kz, kk0, kk1, kk2, kk3, ↓two_true, ↓two_false, mkv, aggAt, Nat.reduceLeDiff, Nat.reduceSub, Nat.reduceMul, implies_true, Nat.reduceEqDiff, reduceIte, Nat.reduceAdd, Nat.reduceBEq, reduceCtorEq, al26, ap24_24, bd26, bs24_0, bs24_1, fa26_0, fa26_1, ix24, ld3, ld24, ld26, ln24, sn24, sl24, st26, q11.rd 4 rfl, q11.rd 5 rfl, q11.rd 6 rfl, q11.rd 7 rfl, q8.rd 0 rfl, q8.rd 1 rfl, q8.rd 2 rfl, q8.rd 3 rfl, q10.rd 2 rfl, q10.rd 3 rfl, q10.rd 4 rfl, q10.rd 5 rfl]
      refine st_box q11 fun H12 q12 => ?_
      simp -implicitDefEqProofs only [kz, kk0, kk1, kk2, kk3, ↓two_true, ↓two_false, mkv, aggAt, Nat.reduceLeDiff, Nat.reduceSub, Nat.reduceMul, implies_true, Nat.reduceEqDiff, reduceIte, Nat.reduceAdd, Nat.reduceBEq, reduceCtorEq, al26, ap24_24, bd26, bs24_0, bs24_1, fa26_0, fa26_1, ix24, ld3, ld24, ld26, ln24, sn24, sl24, st26, q12.rd 0 rfl, q12.rd 5 rfl, q12.rd 6 rfl, q12.rd 7 rfl, q12.rd 8 rfl, q8.rd 0 rfl, q8.rd 1 rfl, q8.rd 2 rfl, q8.rd 3 rfl, q10.rd 2 rfl, q10.rd 3 rfl, q10.rd 4 rfl, q10.rd 5 rfl, q11.rd 4 rfl, q11.rd 5 rfl, q11.rd 6 rfl, q11.rd 7 rfl]
      refine st_box q12 fun H13 q13 => ?_
      simp -implicitDefEqProofs only [kz, kk0, kk1, kk2, kk3, ↓two_true, ↓two_false, mkv, aggAt, Nat.reduceLeDiff, Nat.reduceSub, Nat.reduceMul, implies_true, Nat.reduceEqDiff, reduceIte, Nat.reduceAdd, Nat.reduceBEq, reduceCtorEq, al26, ap24_24, bd26, bs24_0, bs24_1, fa26_0, fa26_1, ix24, ld3, ld24, ld26, ln24, sn24, sl24, st26, q13.rd 0 rfl, q13.rd 1 rfl, q13.rd 6 rfl, q13.rd 7 rfl, q13.rd 8 rfl, q13.rd 9 rfl, q8.rd 0 rfl, q8.rd 1 rfl, q8.rd 2 rfl, q8.rd 3 rfl, q10.rd 2 rfl, q10.rd 3 rfl, q10.rd 4 rfl, q10.rd 5 rfl, q11.rd 4 rfl, q11.rd 5 rfl, q11.rd 6 rfl, q11.rd 7 rfl, q12.rd 0 rfl, q12.rd 5 rfl, q12.rd 6 rfl, q12.rd 7 rfl, q12.rd 8 rfl]
      refine st_set q13 1 rfl fun H14 q14 => ?_
      simp only [List.set_cons_zero, List.set_cons_succ] at q14
      simp -implicitDefEqProofs only [kz, kk0, kk1, kk2, kk3, ↓two_true, ↓two_false, mkv, aggAt, Nat.reduceLeDiff, Nat.reduceSub, Nat.reduceMul, implies_true, Nat.reduceEqDiff, reduceIte, Nat.reduceAdd, Nat.reduceBEq, reduceCtorEq, al26, ap24_24, bd26, bs24_0, bs24_1, fa26_0, fa26_1, ix24, ld3, ld24, ld26, ln24, sn24, sl24, st26, q14.rd 0 rfl, q14.rd 1 rfl, q14.rd 6 rfl, q14.rd 7 rfl, q14.rd 8 rfl, q14.rd 9 rfl, q8.rd 0 rfl, q8.rd 1 rfl, q8.rd 2 rfl, q8.rd 3 rfl, q10.rd 2 rfl, q10.rd 3 rfl, q10.rd 4 rfl, q10.rd 5 rfl, q11.rd 4 rfl, q11.rd 5 rfl, q11.rd 6 rfl, q11.rd 7 rfl, q12.rd 0 rfl, q12.rd 5 rfl, q12.rd 6 rfl, q12.rd 7 rfl, q12.rd 8 rfl, q13.rd 0 rfl, q13.rd 1 rfl, q13.rd 6 rfl, q13.rd 7 rfl, q13.rd 8 rfl, q13.rd 9 rfl]
      refine st_set q14 0 rfl fun H15 q15 => ?_
      simp only [List.set_cons_zero, List.set_cons_succ] at q15
      simp -implicitDefEqProofs only [kz, kk0, kk1, kk2, kk3, ↓two_true, ↓two_false, mkv, aggAt, Nat.reduceLeDiff, Nat.reduceSub, Nat.reduceMul, implies_true, Nat.reduceEqDiff, reduceIte, Nat.reduceAdd, Nat.reduceBEq, reduceCtorEq, al26, ap24_24, bd26, bs24_0, bs24_1, fa26_0, fa26_1, ix24, ld3, ld24, ld26, ln24, sn24, sl24, st26, q15.rd 0 rfl, q15.rd 1 rfl, q15.rd 6 rfl, q15.rd 7 rfl, q15.rd 8 rfl, q15.rd 9 rfl, q8.rd 0 rfl, q8.rd 1 rfl, q8.rd 2 rfl, q8.rd 3 rfl, q10.rd 2 rfl, q10.rd 3 rfl, q10.rd 4 rfl, q10.rd 5 rfl, q11.rd 4 rfl, q11.rd 5 rfl, q11.rd 6 rfl, q11.rd 7 rfl, q12.rd 0 rfl, q12.rd 5 rfl, q12.rd 6 rfl, q12.rd 7 rfl, q12.rd 8 rfl, q13.rd 0 rfl, q13.rd 1 rfl, q13.rd 6 rfl, q13.rd 7 rfl, q13.rd 8 rfl, q13.rd 9 rfl, q14.rd 0 rfl, q14.rd 1 rfl, q14.rd 6 rfl, q14.rd 7 rfl, q14.rd 8 rfl, q14.rd 9 rfl]
      try simp -implicitDefEqProofs only [kz, kk0, kk1, kk2, kk3, ↓two_true, ↓two_false, mkv, aggAt, Nat.reduceLeDiff, Nat.reduceSub, Nat.reduceMul, implies_true, Nat.reduceEqDiff, reduceIte, Nat.reduceAdd, Nat.reduceBEq, reduceCtorEq, al26, ap24_24, bd26, bs24_0, bs24_1, fa26_0, fa26_1, ix24, ld3, ld24, ld26, ln24, sn24, sl24, st26, q15.rd 0 rfl, q15.rd 1 rfl, q15.rd 6 rfl, q15.rd 7 rfl, q15.rd 8 rfl, q15.rd 9 rfl]
      refine two_intro (fun u3 => ?_) (fun u3 => ?_)
      ·
        have v3 : (asR sa da).length ≠ (asR sb db).length := by have h5 : ¬ ((asR sa da).length : Int) = ((asR sb db).length : Int) := (by simpa using u3); omega
        try simp -implicitDefEqProofs only [kz, kk0, kk1, kk2, kk3, ↓two_true, ↓two_false, mkv, aggAt, Nat.reduceLeDiff, Nat.reduceSub, Nat.reduceMul, implies_true, Nat.reduceEqDiff, reduceIte, Nat.reduceAdd, Nat.reduceBEq, reduceCtorEq, al26, ap24_24, bd26, bs24_0, bs24_1, fa26_0, fa26_1, ix24, ld3, ld24, ld26, ln24, sn24, sl24, st26, q15.rd 0 rfl, q15.rd 1 rfl, q15.rd 6 rfl, q15.rd 7 rfl, q15.rd 8 rfl, q15.rd 9 rfl]
        refine st_set q15 7 rfl fun H16 q16 => ?_
        simp only [List.set_cons_zero, List.set_cons_succ] at q16
        simp -implicitDefEqProofs only [kz, kk0, kk1, kk2, kk3, ↓two_true, ↓two_false, mkv, aggAt, Nat.reduceLeDiff, Nat.reduceSub, Nat.reduceMul, implies_true, Nat.reduceEqDiff, reduceIte, Nat.reduceAdd, Nat.reduceBEq, reduceCtorEq, al26, ap24_24, bd26, bs24_0, bs24_1, fa26_0, fa26_1, ix24, ld3, ld24, ld26, ln24, sn24, sl24, st26, q16.rd 0 rfl, q16.rd 1 rfl, q16.rd 6 rfl, q16.rd 7 rfl, q16.rd 8 rfl, q16.rd 9 rfl]
        -- end3
        exact q16.err (by unfold joinA; rw [show (arrOk sa da && arrOk sb db) = true by rw [v1, v2]; rfl, if_pos rfl, if_pos v3])
      ·
        have v3 : (asR sa da).length = (asR sb db).length := by have h5 : ((asR sa da).length : Int) = ((asR sb db).length : Int) := (by simpa using u3); omega
        obtain ⟨a5, c5, ev1, hv1⟩ := IntRow.tl (q15.ri 4 rfl) (by omega)
        obtain ⟨a6, c6, ev2, hv2⟩ := IntRow.tl (q15.ri 2 rfl) (by omega)
        have es1 := fun Φ => (l2Same_ok hv1 hv2 (by simp; omega)).eq0 (Φ := Φ)
        try simp -implicitDefEqProofs only [kz, kk0, kk1, kk2, kk3, ↓two_true, ↓two_false, mkv, aggAt, Nat.reduceLeDiff, Nat.reduceSub, Nat.reduceMul, implies_true, Nat.reduceEqDiff, reduceIte, Nat.reduceAdd, Nat.reduceBEq, reduceCtorEq, al26, ap24_24, bd26, bs24_0, bs24_1, fa26_0, fa26_1, ix24, ld3, ld24, ld26, ln24, sn24, sl24, st26, ev1, ev2, es1, q15.rd 0 rfl, q15.rd 1 rfl, q15.rd 6 rfl, q15.rd 7 rfl, q15.rd 8 rfl, q15.rd 9 rfl]
        refine two_intro (fun u4 => ?_) (fun u4 => ?_)
        ·
          have v4 : ((asR sa da).tail == (asR sb db).tail) = false := by simpa using u4
          try simp -implicitDefEqProofs only [kz, kk0, kk1, kk2, kk3, ↓two_true, ↓two_false, mkv, aggAt, Nat.reduceLeDiff, Nat.reduceSub, Nat.reduceMul, implies_true, Nat.reduceEqDiff, reduceIte, Nat.reduceAdd, Nat.reduceBEq, reduceCtorEq, al26, ap24_24, bd26, bs24_0, bs24_1, fa26_0, fa26_1, ix24, ld3, ld24, ld26, ln24, sn24, sl24, st26, ev1, ev2, es1, q15.rd 0 rfl, q15.rd 1 rfl, q15.rd 6 rfl, q15.rd 7 rfl, q15.rd 8 rfl, q15.rd 9 rfl]
          refine st_set q15 7 rfl fun H17 q17 => ?_
          simp only [List.set_cons_zero, List.set_cons_succ] at q17
          simp -implicitDefEqProofs only [kz, kk0, kk1, kk2, kk3, ↓two_true, ↓two_false, mkv, aggAt, Nat.reduceLeDiff, Nat.reduceSub, Nat.reduceMul, implies_true, Nat.reduceEqDiff, reduceIte, Nat.reduceAdd, Nat.reduceBEq, reduceCtorEq, al26, ap24_24, bd26, bs24_0, bs24_1, fa26_0, fa26_1, ix24, ld3, ld24, ld26, ln24, sn24, sl24, st26, ev1, ev2, es1, q17.rd 0 rfl, q17.rd 1 rfl, q17.rd 6 rfl, q17.rd 7 rfl, q17.rd 8 rfl, q17.rd 9 rfl]
          -- end4
          exact q17.err (by unfold joinA; rw [show (arrOk sa da && arrOk sb db) = true by rw [v1, v2]; rfl, if_pos rfl, if_neg (fun h => h v3), if_pos v4])
        ·
          have v4 : ¬ ((asR sa da).tail == (asR sb db).tail) = false := by simpa using u4
          obtain ⟨b1, o1, cs1, ei1, fr1, fc1⟩ := ixI0 (q15.ri 4 rfl) (List.getElem?_eq_getElem (show 0 < (asR sa da).length by omega))
          have hh1 : (asR sa da)[0]'(by omega) = (asR sa da).headD 0 := (headD_get (by omega)).symm
          obtain ⟨b2, o2, cs2, ei2, fr2, fc2⟩ := ixI0 (q15.ri 2 rfl) (List.getElem?_eq_getElem (show 0 < (asR sb db).length by omega))
          have hh2 : (asR sb db)[0]'(by omega) = (asR sb db).headD 0 := (headD_get (by omega)).symm
          have whh : IntKind.i64.wrap ((asR sa da).headD 0 + (asR sb db).headD 0) = (asR sa da).headD 0 + (asR sb db).headD 0 := IntWalk.i64_in _ (by omega)
          try simp -implicitDefEqProofs only [kz, kk0, kk1, kk2, kk3, ↓two_true, ↓two_false, mkv, aggAt, Nat.reduceLeDiff, Nat.reduceSub, Nat.reduceMul, implies_true, Nat.reduceEqDiff, reduceIte, Nat.reduceAdd, Nat.reduceBEq, reduceCtorEq, al26, ap24_24, bd26, bs24_0, bs24_1, fa26_0, fa26_1, ix24, ld3, ld24, ld26, ln24, sn24, sl24, st26, ev1, ev2, es1, hh1, hh2, whh, ei1, fr1, fc1, ei2, fr2, fc2, q15.rd 0 rfl, q15.rd 1 rfl, q15.rd 6 rfl, q15.rd 7 rfl, q15.rd 8 rfl, q15.rd 9 rfl]
          refine st_lit [(asR sa da).headD 0 + (asR sb db).headD 0] rfl rfl q15 fun H18 q18 => ?_
          obtain ⟨a7, c7, ev3, hv3⟩ := IntRow.tl (q18.ri 5 rfl) (by omega)
          have hh1 := ev1.symm.trans ev3
          simp only [Option.some.injEq, Value.slice.injEq] at hh1
          obtain ⟨rfl, -, rfl⟩ := hh1
          simp -implicitDefEqProofs only [kz, kk0, kk1, kk2, kk3, ↓two_true, ↓two_false, mkv, aggAt, Nat.reduceLeDiff, Nat.reduceSub, Nat.reduceMul, implies_true, Nat.reduceEqDiff, reduceIte, Nat.reduceAdd, Nat.reduceBEq, reduceCtorEq, al26, ap24_24, bd26, bs24_0, bs24_1, fa26_0, fa26_1, ix24, ld3, ld24, ld26, ln24, sn24, sl24, st26, ev1, ev2, es1, hh1, hh2, whh, q18.rd 1 rfl, q18.rd 2 rfl, q18.rd 7 rfl, q18.rd 8 rfl, q18.rd 9 rfl, q18.rd 10 rfl, q15.rd 0 rfl, q15.rd 1 rfl, q15.rd 6 rfl, q15.rd 7 rfl, q15.rd 8 rfl, q15.rd 9 rfl]
          refine st_app q18 0 rfl hv3 (by first | omega | (simp; omega)) fun a8 c8 H19 q19 => ?_
          simp only [List.set_cons_zero, List.set_cons_succ, List.length_nil, List.length_cons, Nat.zero_add, List.nil_append] at q19 ⊢
          simp -implicitDefEqProofs only [kz, kk0, kk1, kk2, kk3, ↓two_true, ↓two_false, mkv, aggAt, Nat.reduceLeDiff, Nat.reduceSub, Nat.reduceMul, implies_true, Nat.reduceEqDiff, reduceIte, Nat.reduceAdd, Nat.reduceBEq, reduceCtorEq, al26, ap24_24, bd26, bs24_0, bs24_1, fa26_0, fa26_1, ix24, ld3, ld24, ld26, ln24, sn24, sl24, st26, ev1, ev2, es1, hh1, hh2, whh, q19.rd 1 rfl, q19.rd 2 rfl, q19.rd 7 rfl, q19.rd 8 rfl, q19.rd 9 rfl, q19.rd 10 rfl, q15.rd 0 rfl, q15.rd 1 rfl, q15.rd 6 rfl, q15.rd 7 rfl, q15.rd 8 rfl, q15.rd 9 rfl, q18.rd 1 rfl, q18.rd 2 rfl, q18.rd 7 rfl, q18.rd 8 rfl, q18.rd 9 rfl, q18.rd 10 rfl]
          try simp -implicitDefEqProofs only [kz, kk0, kk1, kk2, kk3, ↓two_true, ↓two_false, mkv, aggAt, Nat.reduceLeDiff, Nat.reduceSub, Nat.reduceMul, implies_true, Nat.reduceEqDiff, reduceIte, Nat.reduceAdd, Nat.reduceBEq, reduceCtorEq, al26, ap24_24, bd26, bs24_0, bs24_1, fa26_0, fa26_1, ix24, ld3, ld24, ld26, ln24, sn24, sl24, st26, ev1, ev2, es1, hh1, hh2, whh, q19.rd 1 rfl, q19.rd 2 rfl, q19.rd 7 rfl, q19.rd 8 rfl, q19.rd 9 rfl, q19.rd 10 rfl]
          refine st_lit [] rfl rfl q19 fun H20 q20 => ?_
          simp -implicitDefEqProofs only [kz, kk0, kk1, kk2, kk3, ↓two_true, ↓two_false, mkv, aggAt, Nat.reduceLeDiff, Nat.reduceSub, Nat.reduceMul, implies_true, Nat.reduceEqDiff, reduceIte, Nat.reduceAdd, Nat.reduceBEq, reduceCtorEq, al26, ap24_24, bd26, bs24_0, bs24_1, fa26_0, fa26_1, ix24, ld3, ld24, ld26, ln24, sn24, sl24, st26, ev1, ev2, es1, hh1, hh2, whh, q20.rd 2 rfl, q20.rd 3 rfl, q20.rd 8 rfl, q20.rd 9 rfl, q20.rd 10 rfl, q20.rd 11 rfl, q19.rd 1 rfl, q19.rd 2 rfl, q19.rd 7 rfl, q19.rd 8 rfl, q19.rd 9 rfl, q19.rd 10 rfl]
          refine st_app q20 0 rfl (q20.ri 7 rfl) (by first | omega | (simp; omega)) fun a9 c9 H21 q21 => ?_
          simp only [List.set_cons_zero, List.set_cons_succ, List.length_nil, List.length_cons, Nat.zero_add, List.nil_append] at q21 ⊢
          simp -implicitDefEqProofs only [kz, kk0, kk1, kk2, kk3, ↓two_true, ↓two_false, mkv, aggAt, Nat.reduceLeDiff, Nat.reduceSub, Nat.reduceMul, implies_true, Nat.reduceEqDiff, reduceIte, Nat.reduceAdd, Nat.reduceBEq, reduceCtorEq, al26, ap24_24, bd26, bs24_0, bs24_1, fa26_0, fa26_1, ix24, ld3, ld24, ld26, ln24, sn24, sl24, st26, ev1, ev2, es1, hh1, hh2, whh, q21.rd 2 rfl, q21.rd 3 rfl, q21.rd 8 rfl, q21.rd 9 rfl, q21.rd 10 rfl, q21.rd 11 rfl, q19.rd 1 rfl, q19.rd 2 rfl, q19.rd 7 rfl, q19.rd 8 rfl, q19.rd 9 rfl, q19.rd 10 rfl, q20.rd 2 rfl, q20.rd 3 rfl, q20.rd 8 rfl, q20.rd 9 rfl, q20.rd 10 rfl, q20.rd 11 rfl]
          refine st_app q21 0 rfl (q21.ri 5 rfl) (by first | omega | (simp; omega)) fun a10 c10 H22 q22 => ?_
          simp only [List.set_cons_zero, List.set_cons_succ, List.length_nil, List.length_cons, Nat.zero_add, List.nil_append] at q22 ⊢
          simp -implicitDefEqProofs only [kz, kk0, kk1, kk2, kk3, ↓two_true, ↓two_false, mkv, aggAt, Nat.reduceLeDiff, Nat.reduceSub, Nat.reduceMul, implies_true, Nat.reduceEqDiff, reduceIte, Nat.reduceAdd, Nat.reduceBEq, reduceCtorEq, al26, ap24_24, bd26, bs24_0, bs24_1, fa26_0, fa26_1, ix24, ld3, ld24, ld26, ln24, sn24, sl24, st26, ev1, ev2, es1, hh1, hh2, whh, q22.rd 2 rfl, q22.rd 3 rfl, q22.rd 8 rfl, q22.rd 9 rfl, q22.rd 10 rfl, q22.rd 11 rfl, q19.rd 1 rfl, q19.rd 2 rfl, q19.rd 7 rfl, q19.rd 8 rfl, q19.rd 9 rfl, q19.rd 10 rfl, q20.rd 2 rfl, q20.rd 3 rfl, q20.rd 8 rfl, q20.rd 9 rfl, q20.rd 10 rfl, q20.rd 11 rfl, q21.rd 2 rfl, q21.rd 3 rfl, q21.rd 8 rfl, q21.rd 9 rfl, q21.rd 10 rfl, q21.rd 11 rfl]
          refine (l5Right_y (q22.ar 1 0 rfl rfl (by first | omega | (simp; omega)) (by first | omega | (simp; omega))) (by first | exact hok | (simpa using hok))).mono ?_
          rintro _ H23 ⟨rfl, he3⟩
          have q23 := q22.extd he3
          simp -implicitDefEqProofs only [kz, kk0, kk1, kk2, kk3, ↓two_true, ↓two_false, mkv, aggAt, Nat.reduceLeDiff, Nat.reduceSub, Nat.reduceMul, implies_true, Nat.reduceEqDiff, reduceIte, Nat.reduceAdd, Nat.reduceBEq, reduceCtorEq, al26, ap24_24, bd26, bs24_0, bs24_1, fa26_0, fa26_1, ix24, ld3, ld24, ld26, ln24, sn24, sl24, st26, ev1, ev2, es1, hh1, hh2, whh, q23.rd 2 rfl, q23.rd 3 rfl, q23.rd 8 rfl, q23.rd 9 rfl, q23.rd 10 rfl, q23.rd 11 rfl, q19.rd 1 rfl, q19.rd 2 rfl, q19.rd 7 rfl, q19.rd 8 rfl, q19.rd 9 rfl, q19.rd 10 rfl, q20.rd 2 rfl, q20.rd 3 rfl, q20.rd 8 rfl, q20.rd 9 rfl, q20.rd 10 rfl, q20.rd 11 rfl, q21.rd 2 rfl, q21.rd 3 rfl, q21.rd 8 rfl, q21.rd 9 rfl, q21.rd 10 rfl, q21.rd 11 rfl, q22.rd 2 rfl, q22.rd 3 rfl, q22.rd 8 rfl, q22.rd 9 rfl, q22.rd 10 rfl, q22.rd 11 rfl]
          refine st_set q23 9 rfl fun H24 q24 => ?_
          simp only [List.set_cons_zero, List.set_cons_succ] at q24
          simp -implicitDefEqProofs only [kz, kk0, kk1, kk2, kk3, ↓two_true, ↓two_false, mkv, aggAt, Nat.reduceLeDiff, Nat.reduceSub, Nat.reduceMul, implies_true, Nat.reduceEqDiff, reduceIte, Nat.reduceAdd, Nat.reduceBEq, reduceCtorEq, al26, ap24_24, bd26, bs24_0, bs24_1, fa26_0, fa26_1, ix24, ld3, ld24, ld26, ln24, sn24, sl24, st26, ev1, ev2, es1, hh1, hh2, whh, q24.rd 2 rfl, q24.rd 3 rfl, q24.rd 8 rfl, q24.rd 9 rfl, q24.rd 10 rfl, q24.rd 11 rfl, q19.rd 1 rfl, q19.rd 2 rfl, q19.rd 7 rfl, q19.rd 8 rfl, q19.rd 9 rfl, q19.rd 10 rfl, q20.rd 2 rfl, q20.rd 3 rfl, q20.rd 8 rfl, q20.rd 9 rfl, q20.rd 10 rfl, q20.rd 11 rfl, q21.rd 2 rfl, q21.rd 3 rfl, q21.rd 8 rfl, q21.rd 9 rfl, q21.rd 10 rfl, q21.rd 11 rfl, q22.rd 2 rfl, q22.rd 3 rfl, q22.rd 8 rfl, q22.rd 9 rfl, q22.rd 10 rfl, q22.rd 11 rfl, q23.rd 2 rfl, q23.rd 3 rfl, q23.rd 8 rfl, q23.rd 9 rfl, q23.rd 10 rfl, q23.rd 11 rfl]
          -- end5
          exact q24.ans 1 0 (by decide) rfl rfl (by unfold joinA; rw [show (arrOk sa da && arrOk sb db) = true by rw [v1, v2]; rfl, if_pos rfl, if_neg (fun h => h v3), if_neg v4, if_pos hok]; first | done | rfl)

theorem specJoin_n {H : AH} {pa qa pb qb : Value} {sa da sb db : List Int} (a : AR H pa qa sa da) (b : AR H pb qb sb db) (hok : arrOk (((asR sa da).headD 0 + (asR sb db).headD 0) :: (asR sa da).tail) (da ++ db) = false) : CallsA Try.prog 50 #[.agg #[pa, qa], .agg #[pb, qb]] H fun r H' => Ans1 H H' r (joinA sa da sb db) := by
  have al := a.l1
  have bl := a.l2
  have al2 := b.l1
  have bl2 := b.l2
  obtain ⟨za, zc, zb, zd, rfl, rfl⟩ := a.o1
  obtain ⟨ya, yc, yb, yd, rfl, rfl⟩ := b.o1
  have q := (LX.nil (H := H))
  refine w50 ?_
  unfold k50
  simp -implicitDefEqProofs only [kz, kk0, kk1, kk2, kk3, ↓two_true, ↓two_false, mkv, aggAt, Nat.reduceLeDiff, Nat.reduceSub, Nat.reduceMul, implies_true, Nat.reduceEqDiff, reduceIte, Nat.reduceAdd, Nat.reduceBEq, reduceCtorEq, al26, ap24_24, bd26, bs24_0, bs24_1, fa26_0, fa26_1, ix24, ld3, ld24, ld26, ln24, sn24, sl24, st26]
  refine st_box q fun H1 q1 => ?_
  simp -implicitDefEqProofs only [kz, kk0, kk1, kk2, kk3, ↓two_true, ↓two_false, mkv, aggAt, Nat.reduceLeDiff, Nat.reduceSub, Nat.reduceMul, implies_true, Nat.reduceEqDiff, reduceIte, Nat.reduceAdd, Nat.reduceBEq, reduceCtorEq, al26, ap24_24, bd26, bs24_0, bs24_1, fa26_0, fa26_1, ix24, ld3, ld24, ld26, ln24, sn24, sl24, st26, q1.rd 0 rfl]
  refine st_box q1 fun H2 q2 => ?_
  simp -implicitDefEqProofs only [kz, kk0, kk1, kk2, kk3, ↓two_true, ↓two_false, mkv, aggAt, Nat.reduceLeDiff, Nat.reduceSub, Nat.reduceMul, implies_true, Nat.reduceEqDiff, reduceIte, Nat.reduceAdd, Nat.reduceBEq, reduceCtorEq, al26, ap24_24, bd26, bs24_0, bs24_1, fa26_0, fa26_1, ix24, ld3, ld24, ld26, ln24, sn24, sl24, st26, q2.rd 0 rfl, q2.rd 1 rfl]
  refine st_box q2 fun H3 q3 => ?_
  simp -implicitDefEqProofs only [kz, kk0, kk1, kk2, kk3, ↓two_true, ↓two_false, mkv, aggAt, Nat.reduceLeDiff, Nat.reduceSub, Nat.reduceMul, implies_true, Nat.reduceEqDiff, reduceIte, Nat.reduceAdd, Nat.reduceBEq, reduceCtorEq, al26, ap24_24, bd26, bs24_0, bs24_1, fa26_0, fa26_1, ix24, ld3, ld24, ld26, ln24, sn24, sl24, st26, q3.rd 0 rfl, q3.rd 1 rfl, q3.rd 2 rfl]
  refine st_box q3 fun H4 q4 => ?_
  simp -implicitDefEqProofs only [kz, kk0, kk1, kk2, kk3, ↓two_true, ↓two_false, mkv, aggAt, Nat.reduceLeDiff, Nat.reduceSub, Nat.reduceMul, implies_true, Nat.reduceEqDiff, reduceIte, Nat.reduceAdd, Nat.reduceBEq, reduceCtorEq, al26, ap24_24, bd26, bs24_0, bs24_1, fa26_0, fa26_1, ix24, ld3, ld24, ld26, ln24, sn24, sl24, st26, q4.rd 0 rfl, q4.rd 1 rfl, q4.rd 2 rfl, q4.rd 3 rfl]
  refine st_set q4 0 rfl fun H5 q5 => ?_
  simp only [List.set_cons_zero, List.set_cons_succ] at q5
  simp -implicitDefEqProofs only [kz, kk0, kk1, kk2, kk3, ↓two_true, ↓two_false, mkv, aggAt, Nat.reduceLeDiff, Nat.reduceSub, Nat.reduceMul, implies_true, Nat.reduceEqDiff, reduceIte, Nat.reduceAdd, Nat.reduceBEq, reduceCtorEq, al26, ap24_24, bd26, bs24_0, bs24_1, fa26_0, fa26_1, ix24, ld3, ld24, ld26, ln24, sn24, sl24, st26, q5.rd 0 rfl, q5.rd 1 rfl, q5.rd 2 rfl, q5.rd 3 rfl]
  refine (specOk_ar (a.ext q5.ext)).mono ?_
  rintro _ H6 ⟨rfl, he1⟩
  have q6 := q5.extd he1
  simp -implicitDefEqProofs only [kz, kk0, kk1, kk2, kk3, ↓two_true, ↓two_false, mkv, aggAt, Nat.reduceLeDiff, Nat.reduceSub, Nat.reduceMul, implies_true, Nat.reduceEqDiff, reduceIte, Nat.reduceAdd, Nat.reduceBEq, reduceCtorEq, al26, ap24_24, bd26, bs24_0, bs24_1, fa26_0, fa26_1, ix24, ld3, ld24, ld26, ln24, sn24, sl24, st26, q6.rd 0 rfl, q6.rd 1 rfl, q6.rd 2 rfl, q6.rd 3 rfl]
  refine two_intro (fun u1 => ?_) (fun u1 => ?_)
  ·
    have w1 : arrOk sa da = false := by simpa using u1
    try simp -implicitDefEqProofs only [kz, kk0, kk1, kk2, kk3, ↓two_true, ↓two_false, mkv, aggAt, Nat.reduceLeDiff, Nat.reduceSub, Nat.reduceMul, implies_true, Nat.reduceEqDiff, reduceIte, Nat.reduceAdd, Nat.reduceBEq, reduceCtorEq, al26, ap24_24, bd26, bs24_0, bs24_1, fa26_0, fa26_1, ix24, ld3, ld24, ld26, ln24, sn24, sl24, st26, q6.rd 0 rfl, q6.rd 1 rfl, q6.rd 2 rfl, q6.rd 3 rfl]
    refine st_set q6 1 rfl fun H7 q7 => ?_
    simp only [List.set_cons_zero, List.set_cons_succ] at q7
    simp -implicitDefEqProofs only [kz, kk0, kk1, kk2, kk3, ↓two_true, ↓two_false, mkv, aggAt, Nat.reduceLeDiff, Nat.reduceSub, Nat.reduceMul, implies_true, Nat.reduceEqDiff, reduceIte, Nat.reduceAdd, Nat.reduceBEq, reduceCtorEq, al26, ap24_24, bd26, bs24_0, bs24_1, fa26_0, fa26_1, ix24, ld3, ld24, ld26, ln24, sn24, sl24, st26, q7.rd 0 rfl, q7.rd 1 rfl, q7.rd 2 rfl, q7.rd 3 rfl]
    -- end1
    exact q7.err (by simp [joinA, show (arrOk sa da && arrOk sb db) = false by simp [w1]])
  ·
    have v1 : arrOk sa da = true := by simpa using u1
    try simp -implicitDefEqProofs only [kz, kk0, kk1, kk2, kk3, ↓two_true, ↓two_false, mkv, aggAt, Nat.reduceLeDiff, Nat.reduceSub, Nat.reduceMul, implies_true, Nat.reduceEqDiff, reduceIte, Nat.reduceAdd, Nat.reduceBEq, reduceCtorEq, al26, ap24_24, bd26, bs24_0, bs24_1, fa26_0, fa26_1, ix24, ld3, ld24, ld26, ln24, sn24, sl24, st26, q6.rd 0 rfl, q6.rd 1 rfl, q6.rd 2 rfl, q6.rd 3 rfl]
    refine (specOk_ar (b.ext q6.ext)).mono ?_
    rintro _ H8 ⟨rfl, he2⟩
    have q8 := q6.extd he2
    simp -implicitDefEqProofs only [kz, kk0, kk1, kk2, kk3, ↓two_true, ↓two_false, mkv, aggAt, Nat.reduceLeDiff, Nat.reduceSub, Nat.reduceMul, implies_true, Nat.reduceEqDiff, reduceIte, Nat.reduceAdd, Nat.reduceBEq, reduceCtorEq, al26, ap24_24, bd26, bs24_0, bs24_1, fa26_0, fa26_1, ix24, ld3, ld24, ld26, ln24, sn24, sl24, st26, q8.rd 0 rfl, q8.rd 1 rfl, q8.rd 2 rfl, q8.rd 3 rfl]
    refine two_intro (fun u2 => ?_) (fun u2 => ?_)
    ·
      have w1 : arrOk sb db = false := by simpa using u2
      try simp -implicitDefEqProofs only [kz, kk0, kk1, kk2, kk3, ↓two_true, ↓two_false, mkv, aggAt, Nat.reduceLeDiff, Nat.reduceSub, Nat.reduceMul, implies_true, Nat.reduceEqDiff, reduceIte, Nat.reduceAdd, Nat.reduceBEq, reduceCtorEq, al26, ap24_24, bd26, bs24_0, bs24_1, fa26_0, fa26_1, ix24, ld3, ld24, ld26, ln24, sn24, sl24, st26, q8.rd 0 rfl, q8.rd 1 rfl, q8.rd 2 rfl, q8.rd 3 rfl]
      refine st_set q8 1 rfl fun H9 q9 => ?_
      simp only [List.set_cons_zero, List.set_cons_succ] at q9
      simp -implicitDefEqProofs only [kz, kk0, kk1, kk2, kk3, ↓two_true, ↓two_false, mkv, aggAt, Nat.reduceLeDiff, Nat.reduceSub, Nat.reduceMul, implies_true, Nat.reduceEqDiff, reduceIte, Nat.reduceAdd, Nat.reduceBEq, reduceCtorEq, al26, ap24_24, bd26, bs24_0, bs24_1, fa26_0, fa26_1, ix24, ld3, ld24, ld26, ln24, sn24, sl24, st26, q9.rd 0 rfl, q9.rd 1 rfl, q9.rd 2 rfl, q9.rd 3 rfl]
      -- end2
      exact q9.err (by simp [joinA, show (arrOk sa da && arrOk sb db) = false by simp [w1]])
    ·
      have v2 : arrOk sb db = true := by simpa using u2
      have wa := asR_ok v1
      have wb := asR_ok v2
      have l1a := arrOk_len v1
      have l1b := arrOk_len v2
      have lta : (asR sa da).tail.length ≤ 3 := by simp; omega
      have ltb : (asR sb db).tail.length ≤ 3 := by simp; omega
      obtain ⟨ma1, ma2, ma3⟩ := rowsR_lim wa.1 wa.2.1
      obtain ⟨mb1, mb2, mb3⟩ := rowsR_lim wb.1 wb.2.1
      have hfl : flatD (rowsR (asR sa da) da ++ rowsR (asR sb db) db) = da ++ db := by
        have e1 := rows_flat wa.1 wa.2.1
        have e2 := rows_flat wb.1 wb.2.1
        unfold flatD at *
        rw [List.flatMap_append, e1, e2]
      try simp -implicitDefEqProofs only [kz, kk0, kk1, kk2, kk3, ↓two_true, ↓two_false, mkv, aggAt, Nat.reduceLeDiff, Nat.reduceSub, Nat.reduceMul, implies_true, Nat.reduceEqDiff, reduceIte, Nat.reduceAdd, Nat.reduceBEq, reduceCtorEq, al26, ap24_24, bd26, bs24_0, bs24_1, fa26_0, fa26_1, ix24, ld3, ld24, ld26, ln24, sn24, sl24, st26, q8.rd 0 rfl, q8.rd 1 rfl, q8.rd 2 rfl, q8.rd 3 rfl]
      refine (l5Vector_lx q8 a).mono ?_
      rintro _ H10 ⟨a1, c1, a2, c2, rfl, q10⟩
      simp -implicitDefEqProofs only [kz, kk0, kk1, kk2, kk3, ↓two_true, ↓two_false, mkv, aggAt, Nat.reduceLeDiff, Nat.reduceSub, Nat.reduceMul, implies_true, Nat.reduceEqDiff, reduceIte, Nat.reduceAdd, Nat.reduceBEq, reduceCtorEq, al26, ap24_24, bd26, bs24_0, bs24_1, fa26_0, fa26_1, ix24, ld3, ld24, ld26, ln24, sn24, sl24, st26, q10.rd 2 rfl, q10.rd 3 rfl, q10.rd 4 rfl, q10.rd 5 rfl, q8.rd 0 rfl, q8.rd 1 rfl, q8.rd 2 rfl, q8.rd 3 rfl]
      refine (l5Vector_lx q10 b).mono ?_
      rintro _ H11 ⟨a3, c3, a4, c4, rfl, q11⟩
      simp -implicitDefEqProofs only [kz, kk0, kk1, kk2, kk3, ↓two_true, ↓two_false, mkv, aggAt, Nat.reduceLeDiff, Nat.reduceSub, Nat.reduceMul, implies_true, Nat.reduceEqDiff, reduceIte, Nat.reduceAdd, Nat.reduceBEq, reduceCtorEq, al26, ap24_24, bd26, bs24_0, bs24_1, fa26_0, fa26_1, ix24, ld3, ld24, ld26, ln24, sn24, sl24, st26, q11.rd 4 rfl, q11.rd 5 rfl, q11.rd 6 rfl, q11.rd 7 rfl, q8.rd 0 rfl, q8.rd 1 rfl, q8.rd 2 rfl, q8.rd 3 rfl, q10.rd 2 rfl, q10.rd 3 rfl, q10.rd 4 rfl, q10.rd 5 rfl]
      refine st_box q11 fun H12 q12 => ?_
      simp -implicitDefEqProofs only [kz, kk0, kk1, kk2, kk3, ↓two_true, ↓two_false, mkv, aggAt, Nat.reduceLeDiff, Nat.reduceSub, Nat.reduceMul, implies_true, Nat.reduceEqDiff, reduceIte, Nat.reduceAdd, Nat.reduceBEq, reduceCtorEq, al26, ap24_24, bd26, bs24_0, bs24_1, fa26_0, fa26_1, ix24, ld3, ld24, ld26, ln24, sn24, sl24, st26, q12.rd 0 rfl, q12.rd 5 rfl, q12.rd 6 rfl, q12.rd 7 rfl, q12.rd 8 rfl, q8.rd 0 rfl, q8.rd 1 rfl, q8.rd 2 rfl, q8.rd 3 rfl, q10.rd 2 rfl, q10.rd 3 rfl, q10.rd 4 rfl, q10.rd 5 rfl, q11.rd 4 rfl, q11.rd 5 rfl, q11.rd 6 rfl, q11.rd 7 rfl]
      refine st_box q12 fun H13 q13 => ?_
      simp -implicitDefEqProofs only [kz, kk0, kk1, kk2, kk3, ↓two_true, ↓two_false, mkv, aggAt, Nat.reduceLeDiff, Nat.reduceSub, Nat.reduceMul, implies_true, Nat.reduceEqDiff, reduceIte, Nat.reduceAdd, Nat.reduceBEq, reduceCtorEq, al26, ap24_24, bd26, bs24_0, bs24_1, fa26_0, fa26_1, ix24, ld3, ld24, ld26, ln24, sn24, sl24, st26, q13.rd 0 rfl, q13.rd 1 rfl, q13.rd 6 rfl, q13.rd 7 rfl, q13.rd 8 rfl, q13.rd 9 rfl, q8.rd 0 rfl, q8.rd 1 rfl, q8.rd 2 rfl, q8.rd 3 rfl, q10.rd 2 rfl, q10.rd 3 rfl, q10.rd 4 rfl, q10.rd 5 rfl, q11.rd 4 rfl, q11.rd 5 rfl, q11.rd 6 rfl, q11.rd 7 rfl, q12.rd 0 rfl, q12.rd 5 rfl, q12.rd 6 rfl, q12.rd 7 rfl, q12.rd 8 rfl]
      refine st_set q13 1 rfl fun H14 q14 => ?_
      simp only [List.set_cons_zero, List.set_cons_succ] at q14
      simp -implicitDefEqProofs only [kz, kk0, kk1, kk2, kk3, ↓two_true, ↓two_false, mkv, aggAt, Nat.reduceLeDiff, Nat.reduceSub, Nat.reduceMul, implies_true, Nat.reduceEqDiff, reduceIte, Nat.reduceAdd, Nat.reduceBEq, reduceCtorEq, al26, ap24_24, bd26, bs24_0, bs24_1, fa26_0, fa26_1, ix24, ld3, ld24, ld26, ln24, sn24, sl24, st26, q14.rd 0 rfl, q14.rd 1 rfl, q14.rd 6 rfl, q14.rd 7 rfl, q14.rd 8 rfl, q14.rd 9 rfl, q8.rd 0 rfl, q8.rd 1 rfl, q8.rd 2 rfl, q8.rd 3 rfl, q10.rd 2 rfl, q10.rd 3 rfl, q10.rd 4 rfl, q10.rd 5 rfl, q11.rd 4 rfl, q11.rd 5 rfl, q11.rd 6 rfl, q11.rd 7 rfl, q12.rd 0 rfl, q12.rd 5 rfl, q12.rd 6 rfl, q12.rd 7 rfl, q12.rd 8 rfl, q13.rd 0 rfl, q13.rd 1 rfl, q13.rd 6 rfl, q13.rd 7 rfl, q13.rd 8 rfl, q13.rd 9 rfl]
      refine st_set q14 0 rfl fun H15 q15 => ?_
      simp only [List.set_cons_zero, List.set_cons_succ] at q15
      simp -implicitDefEqProofs only [kz, kk0, kk1, kk2, kk3, ↓two_true, ↓two_false, mkv, aggAt, Nat.reduceLeDiff, Nat.reduceSub, Nat.reduceMul, implies_true, Nat.reduceEqDiff, reduceIte, Nat.reduceAdd, Nat.reduceBEq, reduceCtorEq, al26, ap24_24, bd26, bs24_0, bs24_1, fa26_0, fa26_1, ix24, ld3, ld24, ld26, ln24, sn24, sl24, st26, q15.rd 0 rfl, q15.rd 1 rfl, q15.rd 6 rfl, q15.rd 7 rfl, q15.rd 8 rfl, q15.rd 9 rfl, q8.rd 0 rfl, q8.rd 1 rfl, q8.rd 2 rfl, q8.rd 3 rfl, q10.rd 2 rfl, q10.rd 3 rfl, q10.rd 4 rfl, q10.rd 5 rfl, q11.rd 4 rfl, q11.rd 5 rfl, q11.rd 6 rfl, q11.rd 7 rfl, q12.rd 0 rfl, q12.rd 5 rfl, q12.rd 6 rfl, q12.rd 7 rfl, q12.rd 8 rfl, q13.rd 0 rfl, q13.rd 1 rfl, q13.rd 6 rfl, q13.rd 7 rfl, q13.rd 8 rfl, q13.rd 9 rfl, q14.rd 0 rfl, q14.rd 1 rfl, q14.rd 6 rfl, q14.rd 7 rfl, q14.rd 8 rfl, q14.rd 9 rfl]
      try simp -implicitDefEqProofs only [kz, kk0, kk1, kk2, kk3, ↓two_true, ↓two_false, mkv, aggAt, Nat.reduceLeDiff, Nat.reduceSub, Nat.reduceMul, implies_true, Nat.reduceEqDiff, reduceIte, Nat.reduceAdd, Nat.reduceBEq, reduceCtorEq, al26, ap24_24, bd26, bs24_0, bs24_1, fa26_0, fa26_1, ix24, ld3, ld24, ld26, ln24, sn24, sl24, st26, q15.rd 0 rfl, q15.rd 1 rfl, q15.rd 6 rfl, q15.rd 7 rfl, q15.rd 8 rfl, q15.rd 9 rfl]
      refine two_intro (fun u3 => ?_) (fun u3 => ?_)
      ·
        have v3 : (asR sa da).length ≠ (asR sb db).length := by have h5 : ¬ ((asR sa da).length : Int) = ((asR sb db).length : Int) := (by simpa using u3); omega
        try simp -implicitDefEqProofs only [kz, kk0, kk1, kk2, kk3, ↓two_true, ↓two_false, mkv, aggAt, Nat.reduceLeDiff, Nat.reduceSub, Nat.reduceMul, implies_true, Nat.reduceEqDiff, reduceIte, Nat.reduceAdd, Nat.reduceBEq, reduceCtorEq, al26, ap24_24, bd26, bs24_0, bs24_1, fa26_0, fa26_1, ix24, ld3, ld24, ld26, ln24, sn24, sl24, st26, q15.rd 0 rfl, q15.rd 1 rfl, q15.rd 6 rfl, q15.rd 7 rfl, q15.rd 8 rfl, q15.rd 9 rfl]
        refine st_set q15 7 rfl fun H16 q16 => ?_
        simp only [List.set_cons_zero, List.set_cons_succ] at q16
        simp -implicitDefEqProofs only [kz, kk0, kk1, kk2, kk3, ↓two_true, ↓two_false, mkv, aggAt, Nat.reduceLeDiff, Nat.reduceSub, Nat.reduceMul, implies_true, Nat.reduceEqDiff, reduceIte, Nat.reduceAdd, Nat.reduceBEq, reduceCtorEq, al26, ap24_24, bd26, bs24_0, bs24_1, fa26_0, fa26_1, ix24, ld3, ld24, ld26, ln24, sn24, sl24, st26, q16.rd 0 rfl, q16.rd 1 rfl, q16.rd 6 rfl, q16.rd 7 rfl, q16.rd 8 rfl, q16.rd 9 rfl]
        -- end3
        exact q16.err (by unfold joinA; rw [show (arrOk sa da && arrOk sb db) = true by rw [v1, v2]; rfl, if_pos rfl, if_pos v3])
      ·
        have v3 : (asR sa da).length = (asR sb db).length := by have h5 : ((asR sa da).length : Int) = ((asR sb db).length : Int) := (by simpa using u3); omega
        obtain ⟨a5, c5, ev1, hv1⟩ := IntRow.tl (q15.ri 4 rfl) (by omega)
        obtain ⟨a6, c6, ev2, hv2⟩ := IntRow.tl (q15.ri 2 rfl) (by omega)
        have es1 := fun Φ => (l2Same_ok hv1 hv2 (by simp; omega)).eq0 (Φ := Φ)
        try simp -implicitDefEqProofs only [kz, kk0, kk1, kk2, kk3, ↓two_true, ↓two_false, mkv, aggAt, Nat.reduceLeDiff, Nat.reduceSub, Nat.reduceMul, implies_true, Nat.reduceEqDiff, reduceIte, Nat.reduceAdd, Nat.reduceBEq, reduceCtorEq, al26, ap24_24, bd26, bs24_0, bs24_1, fa26_0, fa26_1, ix24, ld3, ld24, ld26, ln24, sn24, sl24, st26, ev1, ev2, es1, q15.rd 0 rfl, q15.rd 1 rfl, q15.rd 6 rfl, q15.rd 7 rfl, q15.rd 8 rfl, q15.rd 9 rfl]
        refine two_intro (fun u4 => ?_) (fun u4 => ?_)
        ·
          have v4 : ((asR sa da).tail == (asR sb db).tail) = false := by simpa using u4
          try simp -implicitDefEqProofs only [kz, kk0, kk1, kk2, kk3, ↓two_true, ↓two_false, mkv, aggAt, Nat.reduceLeDiff, Nat.reduceSub, Nat.reduceMul, implies_true, Nat.reduceEqDiff, reduceIte, Nat.reduceAdd, Nat.reduceBEq, reduceCtorEq, al26, ap24_24, bd26, bs24_0, bs24_1, fa26_0, fa26_1, ix24, ld3, ld24, ld26, ln24, sn24, sl24, st26, ev1, ev2, es1, q15.rd 0 rfl, q15.rd 1 rfl, q15.rd 6 rfl, q15.rd 7 rfl, q15.rd 8 rfl, q15.rd 9 rfl]
          refine st_set q15 7 rfl fun H17 q17 => ?_
          simp only [List.set_cons_zero, List.set_cons_succ] at q17
          simp -implicitDefEqProofs only [kz, kk0, kk1, kk2, kk3, ↓two_true, ↓two_false, mkv, aggAt, Nat.reduceLeDiff, Nat.reduceSub, Nat.reduceMul, implies_true, Nat.reduceEqDiff, reduceIte, Nat.reduceAdd, Nat.reduceBEq, reduceCtorEq, al26, ap24_24, bd26, bs24_0, bs24_1, fa26_0, fa26_1, ix24, ld3, ld24, ld26, ln24, sn24, sl24, st26, ev1, ev2, es1, q17.rd 0 rfl, q17.rd 1 rfl, q17.rd 6 rfl, q17.rd 7 rfl, q17.rd 8 rfl, q17.rd 9 rfl]
          -- end4
          exact q17.err (by unfold joinA; rw [show (arrOk sa da && arrOk sb db) = true by rw [v1, v2]; rfl, if_pos rfl, if_neg (fun h => h v3), if_pos v4])
        ·
          have v4 : ¬ ((asR sa da).tail == (asR sb db).tail) = false := by simpa using u4
          obtain ⟨b1, o1, cs1, ei1, fr1, fc1⟩ := ixI0 (q15.ri 4 rfl) (List.getElem?_eq_getElem (show 0 < (asR sa da).length by omega))
          have hh1 : (asR sa da)[0]'(by omega) = (asR sa da).headD 0 := (headD_get (by omega)).symm
          obtain ⟨b2, o2, cs2, ei2, fr2, fc2⟩ := ixI0 (q15.ri 2 rfl) (List.getElem?_eq_getElem (show 0 < (asR sb db).length by omega))
          have hh2 : (asR sb db)[0]'(by omega) = (asR sb db).headD 0 := (headD_get (by omega)).symm
          have whh : IntKind.i64.wrap ((asR sa da).headD 0 + (asR sb db).headD 0) = (asR sa da).headD 0 + (asR sb db).headD 0 := IntWalk.i64_in _ (by omega)
          try simp -implicitDefEqProofs only [kz, kk0, kk1, kk2, kk3, ↓two_true, ↓two_false, mkv, aggAt, Nat.reduceLeDiff, Nat.reduceSub, Nat.reduceMul, implies_true, Nat.reduceEqDiff, reduceIte, Nat.reduceAdd, Nat.reduceBEq, reduceCtorEq, al26, ap24_24, bd26, bs24_0, bs24_1, fa26_0, fa26_1, ix24, ld3, ld24, ld26, ln24, sn24, sl24, st26, ev1, ev2, es1, hh1, hh2, whh, ei1, fr1, fc1, ei2, fr2, fc2, q15.rd 0 rfl, q15.rd 1 rfl, q15.rd 6 rfl, q15.rd 7 rfl, q15.rd 8 rfl, q15.rd 9 rfl]
          refine st_lit [(asR sa da).headD 0 + (asR sb db).headD 0] rfl rfl q15 fun H18 q18 => ?_
          obtain ⟨a7, c7, ev3, hv3⟩ := IntRow.tl (q18.ri 5 rfl) (by omega)
          have hh1 := ev1.symm.trans ev3
          simp only [Option.some.injEq, Value.slice.injEq] at hh1
          obtain ⟨rfl, -, rfl⟩ := hh1
          simp -implicitDefEqProofs only [kz, kk0, kk1, kk2, kk3, ↓two_true, ↓two_false, mkv, aggAt, Nat.reduceLeDiff, Nat.reduceSub, Nat.reduceMul, implies_true, Nat.reduceEqDiff, reduceIte, Nat.reduceAdd, Nat.reduceBEq, reduceCtorEq, al26, ap24_24, bd26, bs24_0, bs24_1, fa26_0, fa26_1, ix24, ld3, ld24, ld26, ln24, sn24, sl24, st26, ev1, ev2, es1, hh1, hh2, whh, q18.rd 1 rfl, q18.rd 2 rfl, q18.rd 7 rfl, q18.rd 8 rfl, q18.rd 9 rfl, q18.rd 10 rfl, q15.rd 0 rfl, q15.rd 1 rfl, q15.rd 6 rfl, q15.rd 7 rfl, q15.rd 8 rfl, q15.rd 9 rfl]
          refine st_app q18 0 rfl hv3 (by first | omega | (simp; omega)) fun a8 c8 H19 q19 => ?_
          simp only [List.set_cons_zero, List.set_cons_succ, List.length_nil, List.length_cons, Nat.zero_add, List.nil_append] at q19 ⊢
          simp -implicitDefEqProofs only [kz, kk0, kk1, kk2, kk3, ↓two_true, ↓two_false, mkv, aggAt, Nat.reduceLeDiff, Nat.reduceSub, Nat.reduceMul, implies_true, Nat.reduceEqDiff, reduceIte, Nat.reduceAdd, Nat.reduceBEq, reduceCtorEq, al26, ap24_24, bd26, bs24_0, bs24_1, fa26_0, fa26_1, ix24, ld3, ld24, ld26, ln24, sn24, sl24, st26, ev1, ev2, es1, hh1, hh2, whh, q19.rd 1 rfl, q19.rd 2 rfl, q19.rd 7 rfl, q19.rd 8 rfl, q19.rd 9 rfl, q19.rd 10 rfl, q15.rd 0 rfl, q15.rd 1 rfl, q15.rd 6 rfl, q15.rd 7 rfl, q15.rd 8 rfl, q15.rd 9 rfl, q18.rd 1 rfl, q18.rd 2 rfl, q18.rd 7 rfl, q18.rd 8 rfl, q18.rd 9 rfl, q18.rd 10 rfl]
          try simp -implicitDefEqProofs only [kz, kk0, kk1, kk2, kk3, ↓two_true, ↓two_false, mkv, aggAt, Nat.reduceLeDiff, Nat.reduceSub, Nat.reduceMul, implies_true, Nat.reduceEqDiff, reduceIte, Nat.reduceAdd, Nat.reduceBEq, reduceCtorEq, al26, ap24_24, bd26, bs24_0, bs24_1, fa26_0, fa26_1, ix24, ld3, ld24, ld26, ln24, sn24, sl24, st26, ev1, ev2, es1, hh1, hh2, whh, q19.rd 1 rfl, q19.rd 2 rfl, q19.rd 7 rfl, q19.rd 8 rfl, q19.rd 9 rfl, q19.rd 10 rfl]
          refine st_lit [] rfl rfl q19 fun H20 q20 => ?_
          simp -implicitDefEqProofs only [kz, kk0, kk1, kk2, kk3, ↓two_true, ↓two_false, mkv, aggAt, Nat.reduceLeDiff, Nat.reduceSub, Nat.reduceMul, implies_true, Nat.reduceEqDiff, reduceIte, Nat.reduceAdd, Nat.reduceBEq, reduceCtorEq, al26, ap24_24, bd26, bs24_0, bs24_1, fa26_0, fa26_1, ix24, ld3, ld24, ld26, ln24, sn24, sl24, st26, ev1, ev2, es1, hh1, hh2, whh, q20.rd 2 rfl, q20.rd 3 rfl, q20.rd 8 rfl, q20.rd 9 rfl, q20.rd 10 rfl, q20.rd 11 rfl, q19.rd 1 rfl, q19.rd 2 rfl, q19.rd 7 rfl, q19.rd 8 rfl, q19.rd 9 rfl, q19.rd 10 rfl]
          refine st_app q20 0 rfl (q20.ri 7 rfl) (by first | omega | (simp; omega)) fun a9 c9 H21 q21 => ?_
          simp only [List.set_cons_zero, List.set_cons_succ, List.length_nil, List.length_cons, Nat.zero_add, List.nil_append] at q21 ⊢
          simp -implicitDefEqProofs only [kz, kk0, kk1, kk2, kk3, ↓two_true, ↓two_false, mkv, aggAt, Nat.reduceLeDiff, Nat.reduceSub, Nat.reduceMul, implies_true, Nat.reduceEqDiff, reduceIte, Nat.reduceAdd, Nat.reduceBEq, reduceCtorEq, al26, ap24_24, bd26, bs24_0, bs24_1, fa26_0, fa26_1, ix24, ld3, ld24, ld26, ln24, sn24, sl24, st26, ev1, ev2, es1, hh1, hh2, whh, q21.rd 2 rfl, q21.rd 3 rfl, q21.rd 8 rfl, q21.rd 9 rfl, q21.rd 10 rfl, q21.rd 11 rfl, q19.rd 1 rfl, q19.rd 2 rfl, q19.rd 7 rfl, q19.rd 8 rfl, q19.rd 9 rfl, q19.rd 10 rfl, q20.rd 2 rfl, q20.rd 3 rfl, q20.rd 8 rfl, q20.rd 9 rfl, q20.rd 10 rfl, q20.rd 11 rfl]
          refine st_app q21 0 rfl (q21.ri 5 rfl) (by first | omega | (simp; omega)) fun a10 c10 H22 q22 => ?_
          simp only [List.set_cons_zero, List.set_cons_succ, List.length_nil, List.length_cons, Nat.zero_add, List.nil_append] at q22 ⊢
          simp -implicitDefEqProofs only [kz, kk0, kk1, kk2, kk3, ↓two_true, ↓two_false, mkv, aggAt, Nat.reduceLeDiff, Nat.reduceSub, Nat.reduceMul, implies_true, Nat.reduceEqDiff, reduceIte, Nat.reduceAdd, Nat.reduceBEq, reduceCtorEq, al26, ap24_24, bd26, bs24_0, bs24_1, fa26_0, fa26_1, ix24, ld3, ld24, ld26, ln24, sn24, sl24, st26, ev1, ev2, es1, hh1, hh2, whh, q22.rd 2 rfl, q22.rd 3 rfl, q22.rd 8 rfl, q22.rd 9 rfl, q22.rd 10 rfl, q22.rd 11 rfl, q19.rd 1 rfl, q19.rd 2 rfl, q19.rd 7 rfl, q19.rd 8 rfl, q19.rd 9 rfl, q19.rd 10 rfl, q20.rd 2 rfl, q20.rd 3 rfl, q20.rd 8 rfl, q20.rd 9 rfl, q20.rd 10 rfl, q20.rd 11 rfl, q21.rd 2 rfl, q21.rd 3 rfl, q21.rd 8 rfl, q21.rd 9 rfl, q21.rd 10 rfl, q21.rd 11 rfl]
          refine (l5Right_n (q22.ar 1 0 rfl rfl (by first | omega | (simp; omega)) (by first | omega | (simp; omega))) (by first | exact hok | (simpa using hok))).mono ?_
          rintro _ H23 ⟨rfl, he3⟩
          have q23 := q22.extd he3
          simp -implicitDefEqProofs only [kz, kk0, kk1, kk2, kk3, ↓two_true, ↓two_false, mkv, aggAt, Nat.reduceLeDiff, Nat.reduceSub, Nat.reduceMul, implies_true, Nat.reduceEqDiff, reduceIte, Nat.reduceAdd, Nat.reduceBEq, reduceCtorEq, al26, ap24_24, bd26, bs24_0, bs24_1, fa26_0, fa26_1, ix24, ld3, ld24, ld26, ln24, sn24, sl24, st26, ev1, ev2, es1, hh1, hh2, whh, q23.rd 2 rfl, q23.rd 3 rfl, q23.rd 8 rfl, q23.rd 9 rfl, q23.rd 10 rfl, q23.rd 11 rfl, q19.rd 1 rfl, q19.rd 2 rfl, q19.rd 7 rfl, q19.rd 8 rfl, q19.rd 9 rfl, q19.rd 10 rfl, q20.rd 2 rfl, q20.rd 3 rfl, q20.rd 8 rfl, q20.rd 9 rfl, q20.rd 10 rfl, q20.rd 11 rfl, q21.rd 2 rfl, q21.rd 3 rfl, q21.rd 8 rfl, q21.rd 9 rfl, q21.rd 10 rfl, q21.rd 11 rfl, q22.rd 2 rfl, q22.rd 3 rfl, q22.rd 8 rfl, q22.rd 9 rfl, q22.rd 10 rfl, q22.rd 11 rfl]
          refine st_set q23 9 rfl fun H24 q24 => ?_
          simp only [List.set_cons_zero, List.set_cons_succ] at q24
          simp -implicitDefEqProofs only [kz, kk0, kk1, kk2, kk3, ↓two_true, ↓two_false, mkv, aggAt, Nat.reduceLeDiff, Nat.reduceSub, Nat.reduceMul, implies_true, Nat.reduceEqDiff, reduceIte, Nat.reduceAdd, Nat.reduceBEq, reduceCtorEq, al26, ap24_24, bd26, bs24_0, bs24_1, fa26_0, fa26_1, ix24, ld3, ld24, ld26, ln24, sn24, sl24, st26, ev1, ev2, es1, hh1, hh2, whh, q24.rd 2 rfl, q24.rd 3 rfl, q24.rd 8 rfl, q24.rd 9 rfl, q24.rd 10 rfl, q24.rd 11 rfl, q19.rd 1 rfl, q19.rd 2 rfl, q19.rd 7 rfl, q19.rd 8 rfl, q19.rd 9 rfl, q19.rd 10 rfl, q20.rd 2 rfl, q20.rd 3 rfl, q20.rd 8 rfl, q20.rd 9 rfl, q20.rd 10 rfl, q20.rd 11 rfl, q21.rd 2 rfl, q21.rd 3 rfl, q21.rd 8 rfl, q21.rd 9 rfl, q21.rd 10 rfl, q21.rd 11 rfl, q22.rd 2 rfl, q22.rd 3 rfl, q22.rd 8 rfl, q22.rd 9 rfl, q22.rd 10 rfl, q22.rd 11 rfl, q23.rd 2 rfl, q23.rd 3 rfl, q23.rd 8 rfl, q23.rd 9 rfl, q23.rd 10 rfl, q23.rd 11 rfl]
          -- end5
          exact q24.err (by unfold joinA; rw [show (arrOk sa da && arrOk sb db) = true by rw [v1, v2]; rfl, if_pos rfl, if_neg (fun h => h v3), if_neg v4, if_neg (by rw [hok]; decide)]; first | done | rfl)

theorem specJoin_ok {H : AH} {pa qa pb qb : Value} {sa da sb db : List Int} (a : AR H pa qa sa da) (b : AR H pb qb sb db) : CallsA Try.prog 50 #[.agg #[pa, qa], .agg #[pb, qb]] H fun r H' => Ans1 H H' r (joinA sa da sb db) := by
  cases hok : arrOk (((asR sa da).headD 0 + (asR sb db).headD 0) :: (asR sa da).tail) (da ++ db) with
  | true => exact specJoin_y a b hok
  | false => exact specJoin_n a b hok

theorem DrawJoin_ok {H : AH} {v : Value} (hv : BRv H v) : CallsA Try.prog 48 #[v] H fun r H' => ∃ (psa qsa : Value) (sa da : List Int) (psb qsb : Value) (sb db : List Int), r = .tuple #[.agg #[psa, qsa], .agg #[psb, qsb]] ∧ LD none H H' [.row psa sa, .row qsa da, .row psb sb, .row qsb db] ∧ sa.length ≤ 1048576 ∧ da.length ≤ 1048576 ∧ sb.length ≤ 1048576 ∧ db.length ≤ 1048576 := by
  obtain ⟨a0, n0, c0, rfl, hn0, hb⟩ := hv
  have hv : BRv H (.slice a0 n0 c0) := ⟨a0, n0, c0, rfl, hn0, hb⟩
  have q := (LX.nil (H := H))
  refine w48 ?_
  unfold k48
  simp -implicitDefEqProofs only [kz, kk0, kk1, kk2, kk3, ↓two_true, ↓two_false, mkv, aggAt, Nat.reduceLeDiff, Nat.reduceSub, Nat.reduceMul, implies_true, Nat.reduceEqDiff, reduceIte, Nat.reduceAdd, Nat.reduceBEq, reduceCtorEq, al26, ap24_24, bs24_1, fa26_0, ld24, ld26, ln24, sn24, sl24, st26]
  refine st_box q fun H1 q1 => ?_
  simp -implicitDefEqProofs only [kz, kk0, kk1, kk2, kk3, ↓two_true, ↓two_false, mkv, aggAt, Nat.reduceLeDiff, Nat.reduceSub, Nat.reduceMul, implies_true, Nat.reduceEqDiff, reduceIte, Nat.reduceAdd, Nat.reduceBEq, reduceCtorEq, al26, ap24_24, bs24_1, fa26_0, ld24, ld26, ln24, sn24, sl24, st26, q1.rd 0 rfl]
  refine st_box q1 fun H2 q2 => ?_
  simp -implicitDefEqProofs only [kz, kk0, kk1, kk2, kk3, ↓two_true, ↓two_false, mkv, aggAt, Nat.reduceLeDiff, Nat.reduceSub, Nat.reduceMul, implies_true, Nat.reduceEqDiff, reduceIte, Nat.reduceAdd, Nat.reduceBEq, reduceCtorEq, al26, ap24_24, bs24_1, fa26_0, ld24, ld26, ln24, sn24, sl24, st26, q2.rd 0 rfl, q2.rd 1 rfl]
  refine (l1New_ok (BRv.ext hv q2.ext)).mono ?_
  rintro _ H3 ⟨cb, rfl, hc1, hcb1, he1⟩
  have q3 := q2.cursor he1 hc1 hcb1
  have hcb0 := Nat.le_trans q2.len hcb1
  simp -implicitDefEqProofs only [kz, kk0, kk1, kk2, kk3, ↓two_true, ↓two_false, mkv, aggAt, Nat.reduceLeDiff, Nat.reduceSub, Nat.reduceMul, implies_true, Nat.reduceEqDiff, reduceIte, Nat.reduceAdd, Nat.reduceBEq, reduceCtorEq, al26, ap24_24, bs24_1, fa26_0, ld24, ld26, ln24, sn24, sl24, st26, q3.rd 0 rfl, q3.rd 1 rfl]
  refine (l3Draw_ok q3.cur).mono ?_
  rintro _ H4 ⟨⟨p1, p2, xs1, xd1, rfl, d1, m1, m2⟩, hf1⟩
  have q4 := q3.da d1 hf1
  obtain ⟨a1, c1, rfl⟩ := (q4.own 0 rfl).isSlice
  obtain ⟨a2, c2, rfl⟩ := (q4.own 1 rfl).isSlice
  simp -implicitDefEqProofs only [kz, kk0, kk1, kk2, kk3, ↓two_true, ↓two_false, mkv, aggAt, Nat.reduceLeDiff, Nat.reduceSub, Nat.reduceMul, implies_true, Nat.reduceEqDiff, reduceIte, Nat.reduceAdd, Nat.reduceBEq, reduceCtorEq, al26, ap24_24, bs24_1, fa26_0, ld24, ld26, ln24, sn24, sl24, st26, q4.rd 2 rfl, q4.rd 3 rfl]
  refine st_box q4 fun H5 q5 => ?_
  simp -implicitDefEqProofs only [kz, kk0, kk1, kk2, kk3, ↓two_true, ↓two_false, mkv, aggAt, Nat.reduceLeDiff, Nat.reduceSub, Nat.reduceMul, implies_true, Nat.reduceEqDiff, reduceIte, Nat.reduceAdd, Nat.reduceBEq, reduceCtorEq, al26, ap24_24, bs24_1, fa26_0, ld24, ld26, ln24, sn24, sl24, st26, q5.rd 0 rfl, q5.rd 3 rfl, q5.rd 4 rfl]
  refine st_set q5 0 rfl fun H6 q6 => ?_
  simp only [List.set_cons_zero, List.set_cons_succ] at q6
  simp -implicitDefEqProofs only [kz, kk0, kk1, kk2, kk3, ↓two_true, ↓two_false, mkv, aggAt, Nat.reduceLeDiff, Nat.reduceSub, Nat.reduceMul, implies_true, Nat.reduceEqDiff, reduceIte, Nat.reduceAdd, Nat.reduceBEq, reduceCtorEq, al26, ap24_24, bs24_1, fa26_0, ld24, ld26, ln24, sn24, sl24, st26, q6.rd 0 rfl, q6.rd 3 rfl, q6.rd 4 rfl]
  refine (l3Draw_ok q6.cur).mono ?_
  rintro _ H7 ⟨⟨p3, p4, xs2, xd2, rfl, d2, m3, m4⟩, hf2⟩
  have q7 := q6.da d2 hf2
  obtain ⟨a3, c3, rfl⟩ := (q7.own 0 rfl).isSlice
  obtain ⟨a4, c4, rfl⟩ := (q7.own 1 rfl).isSlice
  simp -implicitDefEqProofs only [kz, kk0, kk1, kk2, kk3, ↓two_true, ↓two_false, mkv, aggAt, Nat.reduceLeDiff, Nat.reduceSub, Nat.reduceMul, implies_true, Nat.reduceEqDiff, reduceIte, Nat.reduceAdd, Nat.reduceBEq, reduceCtorEq, al26, ap24_24, bs24_1, fa26_0, ld24, ld26, ln24, sn24, sl24, st26, q7.rd 2 rfl, q7.rd 5 rfl, q7.rd 6 rfl]
  refine st_box q7 fun H8 q8 => ?_
  simp -implicitDefEqProofs only [kz, kk0, kk1, kk2, kk3, ↓two_true, ↓two_false, mkv, aggAt, Nat.reduceLeDiff, Nat.reduceSub, Nat.reduceMul, implies_true, Nat.reduceEqDiff, reduceIte, Nat.reduceAdd, Nat.reduceBEq, reduceCtorEq, al26, ap24_24, bs24_1, fa26_0, ld24, ld26, ln24, sn24, sl24, st26, q8.rd 0 rfl, q8.rd 3 rfl, q8.rd 6 rfl, q8.rd 7 rfl]
  refine st_set q8 0 rfl fun H9 q9 => ?_
  simp only [List.set_cons_zero, List.set_cons_succ] at q9
  simp -implicitDefEqProofs only [kz, kk0, kk1, kk2, kk3, ↓two_true, ↓two_false, mkv, aggAt, Nat.reduceLeDiff, Nat.reduceSub, Nat.reduceMul, implies_true, Nat.reduceEqDiff, reduceIte, Nat.reduceAdd, Nat.reduceBEq, reduceCtorEq, al26, ap24_24, bs24_1, fa26_0, ld24, ld26, ln24, sn24, sl24, st26, q9.rd 0 rfl, q9.rd 3 rfl, q9.rd 6 rfl, q9.rd 7 rfl]
  refine (specOk_ar (q9.ar 4 5 rfl rfl (by (try simp only [List.length_cons, List.length_nil, List.length_append, List.length_replicate, List.length_map, List.length_take, List.length_drop]); omega) (by (try simp only [List.length_cons, List.length_nil, List.length_append, List.length_replicate, List.length_map, List.length_take, List.length_drop]); omega))).mono ?_
  rintro _ H10 ⟨rfl, he2⟩
  have q10 := q9.extd he2
  simp -implicitDefEqProofs only [kz, kk0, kk1, kk2, kk3, ↓two_true, ↓two_false, mkv, aggAt, Nat.reduceLeDiff, Nat.reduceSub, Nat.reduceMul, implies_true, Nat.reduceEqDiff, reduceIte, Nat.reduceAdd, Nat.reduceBEq, reduceCtorEq, al26, ap24_24, bs24_1, fa26_0, ld24, ld26, ln24, sn24, sl24, st26, q10.rd 0 rfl, q10.rd 3 rfl, q10.rd 6 rfl, q10.rd 7 rfl]
  refine two_intro (fun u1 => ?_) (fun u1 => ?_)
  ·
    try simp -implicitDefEqProofs only [kz, kk0, kk1, kk2, kk3, ↓two_true, ↓two_false, mkv, aggAt, Nat.reduceLeDiff, Nat.reduceSub, Nat.reduceMul, implies_true, Nat.reduceEqDiff, reduceIte, Nat.reduceAdd, Nat.reduceBEq, reduceCtorEq, al26, ap24_24, bs24_1, fa26_0, ld24, ld26, ln24, sn24, sl24, st26, q10.rd 0 rfl, q10.rd 3 rfl, q10.rd 6 rfl, q10.rd 7 rfl]
    refine two_intro (fun u2 => ?_) (fun u2 => ?_)
    ·
      have hpos : 0 < xs1.length := by have h5 := of_decide_eq_true u2; omega
      try simp -implicitDefEqProofs only [kz, kk0, kk1, kk2, kk3, ↓two_true, ↓two_false, mkv, aggAt, Nat.reduceLeDiff, Nat.reduceSub, Nat.reduceMul, implies_true, Nat.reduceEqDiff, reduceIte, Nat.reduceAdd, Nat.reduceBEq, reduceCtorEq, al26, ap24_24, bs24_1, fa26_0, ld24, ld26, ln24, sn24, sl24, st26, q10.rd 0 rfl, q10.rd 3 rfl, q10.rd 6 rfl, q10.rd 7 rfl]
      refine (l1Once_ok q10.cur).mono ?_
      rintro _ H11 ⟨⟨bb1, rfl⟩, hf3⟩
      have q11 := q10.call hf3
      simp -implicitDefEqProofs only [kz, kk0, kk1, kk2, kk3, ↓two_true, ↓two_false, mkv, aggAt, Nat.reduceLeDiff, Nat.reduceSub, Nat.reduceMul, implies_true, Nat.reduceEqDiff, reduceIte, Nat.reduceAdd, Nat.reduceBEq, reduceCtorEq, al26, ap24_24, bs24_1, fa26_0, ld24, ld26, ln24, sn24, sl24, st26, q11.rd 0 rfl, q11.rd 3 rfl, q11.rd 6 rfl, q11.rd 7 rfl]
      refine two_intro (fun u3 => ?_) (fun u3 => ?_)
      ·
        try simp -implicitDefEqProofs only [kz, kk0, kk1, kk2, kk3, ↓two_true, ↓two_false, mkv, aggAt, Nat.reduceLeDiff, Nat.reduceSub, Nat.reduceMul, implies_true, Nat.reduceEqDiff, reduceIte, Nat.reduceAdd, Nat.reduceBEq, reduceCtorEq, al26, ap24_24, bs24_1, fa26_0, ld24, ld26, ln24, sn24, sl24, st26, q11.rd 0 rfl, q11.rd 3 rfl, q11.rd 6 rfl, q11.rd 7 rfl]
        refine (l1Below_ok q11.cur).mono ?_
        rintro _ H12 ⟨⟨x1, rfl, -, hx1⟩, hf4⟩
        have q12 := q11.call hf4
        simp -implicitDefEqProofs only [kz, kk0, kk1, kk2, kk3, ↓two_true, ↓two_false, mkv, aggAt, Nat.reduceLeDiff, Nat.reduceSub, Nat.reduceMul, implies_true, Nat.reduceEqDiff, reduceIte, Nat.reduceAdd, Nat.reduceBEq, reduceCtorEq, al26, ap24_24, bs24_1, fa26_0, ld24, ld26, ln24, sn24, sl24, st26, q12.rd 0 rfl, q12.rd 3 rfl, q12.rd 6 rfl, q12.rd 7 rfl, q11.rd 0 rfl, q11.rd 3 rfl, q11.rd 6 rfl, q11.rd 7 rfl]
        refine st_lit [x1] rfl rfl q12 fun H13 q13 => ?_
        obtain ⟨a5, c5, ev1, hv1⟩ := IntRow.tl (q13.int 5 rfl) (by omega)
        simp -implicitDefEqProofs only [kz, kk0, kk1, kk2, kk3, ↓two_true, ↓two_false, mkv, aggAt, Nat.reduceLeDiff, Nat.reduceSub, Nat.reduceMul, implies_true, Nat.reduceEqDiff, reduceIte, Nat.reduceAdd, Nat.reduceBEq, reduceCtorEq, al26, ap24_24, bs24_1, fa26_0, ld24, ld26, ln24, sn24, sl24, st26, ev1, q13.rd 1 rfl, q13.rd 4 rfl, q13.rd 7 rfl, q13.rd 8 rfl, q11.rd 0 rfl, q11.rd 3 rfl, q11.rd 6 rfl, q11.rd 7 rfl, q12.rd 0 rfl, q12.rd 3 rfl, q12.rd 6 rfl, q12.rd 7 rfl]
        refine st_app q13 0 rfl hv1 (by first | omega | (simp; omega)) fun a6 c6 H14 q14 => ?_
        simp only [List.set_cons_zero, List.set_cons_succ, List.length_nil, List.length_cons, Nat.zero_add, List.nil_append] at q14 ⊢
        simp -implicitDefEqProofs only [kz, kk0, kk1, kk2, kk3, ↓two_true, ↓two_false, mkv, aggAt, Nat.reduceLeDiff, Nat.reduceSub, Nat.reduceMul, implies_true, Nat.reduceEqDiff, reduceIte, Nat.reduceAdd, Nat.reduceBEq, reduceCtorEq, al26, ap24_24, bs24_1, fa26_0, ld24, ld26, ln24, sn24, sl24, st26, ev1, q14.rd 1 rfl, q14.rd 4 rfl, q14.rd 7 rfl, q14.rd 8 rfl, q11.rd 0 rfl, q11.rd 3 rfl, q11.rd 6 rfl, q11.rd 7 rfl, q12.rd 0 rfl, q12.rd 3 rfl, q12.rd 6 rfl, q12.rd 7 rfl, q13.rd 1 rfl, q13.rd 4 rfl, q13.rd 7 rfl, q13.rd 8 rfl]
        have es1 := fun Φ => (specShapeOk_ok (q14.int 0 rfl) (by simp; omega)).eq0 (Φ := Φ)
        try simp -implicitDefEqProofs only [kz, kk0, kk1, kk2, kk3, ↓two_true, ↓two_false, mkv, aggAt, Nat.reduceLeDiff, Nat.reduceSub, Nat.reduceMul, implies_true, Nat.reduceEqDiff, reduceIte, Nat.reduceAdd, Nat.reduceBEq, reduceCtorEq, al26, ap24_24, bs24_1, fa26_0, ld24, ld26, ln24, sn24, sl24, st26, ev1, es1, q14.rd 1 rfl, q14.rd 4 rfl, q14.rd 7 rfl, q14.rd 8 rfl]
        refine two_intro (fun u4 => ?_) (fun u4 => ?_)
        ·
          try simp -implicitDefEqProofs only [kz, kk0, kk1, kk2, kk3, ↓two_true, ↓two_false, mkv, aggAt, Nat.reduceLeDiff, Nat.reduceSub, Nat.reduceMul, implies_true, Nat.reduceEqDiff, reduceIte, Nat.reduceAdd, Nat.reduceBEq, reduceCtorEq, al26, ap24_24, bs24_1, fa26_0, ld24, ld26, ln24, sn24, sl24, st26, ev1, es1, q14.rd 1 rfl, q14.rd 4 rfl, q14.rd 7 rfl, q14.rd 8 rfl]
          refine (l3Fill_ok q14.cur (q14.own 0 rfl) (q14.nc 0 rfl) (by first | omega | (simp; omega) | simp)).mono ?_
          rintro _ H15 ⟨⟨p5, p6, xd3, rfl, d3, n1, -⟩, hf5⟩
          have hl_xd3 : xd3.length ≤ 300 := by have := sizeI_le (l := [x1] ++ (xs1).tail); omega
          have q15 := q14.da d3 hf5
          obtain ⟨a7, c7, rfl⟩ := (q15.own 0 rfl).isSlice
          obtain ⟨a8, c8, rfl⟩ := (q15.own 1 rfl).isSlice
          simp -implicitDefEqProofs only [kz, kk0, kk1, kk2, kk3, ↓two_true, ↓two_false, mkv, aggAt, Nat.reduceLeDiff, Nat.reduceSub, Nat.reduceMul, implies_true, Nat.reduceEqDiff, reduceIte, Nat.reduceAdd, Nat.reduceBEq, reduceCtorEq, al26, ap24_24, bs24_1, fa26_0, ld24, ld26, ln24, sn24, sl24, st26, ev1, es1, q15.rd 3 rfl, q15.rd 6 rfl, q15.rd 9 rfl, q15.rd 10 rfl]
          refine st_set q15 3 rfl fun H16 q16 => ?_
          simp only [List.set_cons_zero, List.set_cons_succ] at q16
          simp -implicitDefEqProofs only [kz, kk0, kk1, kk2, kk3, ↓two_true, ↓two_false, mkv, aggAt, Nat.reduceLeDiff, Nat.reduceSub, Nat.reduceMul, implies_true, Nat.reduceEqDiff, reduceIte, Nat.reduceAdd, Nat.reduceBEq, reduceCtorEq, al26, ap24_24, bs24_1, fa26_0, ld24, ld26, ln24, sn24, sl24, st26, ev1, es1, q16.rd 3 rfl, q16.rd 6 rfl, q16.rd 9 rfl, q16.rd 10 rfl]
          refine st_set q16 10 rfl fun H17 q17 => ?_
          simp only [List.set_cons_zero, List.set_cons_succ] at q17
          simp -implicitDefEqProofs only [kz, kk0, kk1, kk2, kk3, ↓two_true, ↓two_false, mkv, aggAt, Nat.reduceLeDiff, Nat.reduceSub, Nat.reduceMul, implies_true, Nat.reduceEqDiff, reduceIte, Nat.reduceAdd, Nat.reduceBEq, reduceCtorEq, al26, ap24_24, bs24_1, fa26_0, ld24, ld26, ln24, sn24, sl24, st26, ev1, es1, q17.rd 3 rfl, q17.rd 6 rfl, q17.rd 9 rfl, q17.rd 10 rfl, q16.rd 3 rfl, q16.rd 6 rfl, q16.rd 9 rfl, q16.rd 10 rfl]
          refine st_set q17 9 rfl fun H18 q18 => ?_
          simp only [List.set_cons_zero, List.set_cons_succ] at q18
          simp -implicitDefEqProofs only [kz, kk0, kk1, kk2, kk3, ↓two_true, ↓two_false, mkv, aggAt, Nat.reduceLeDiff, Nat.reduceSub, Nat.reduceMul, implies_true, Nat.reduceEqDiff, reduceIte, Nat.reduceAdd, Nat.reduceBEq, reduceCtorEq, al26, ap24_24, bs24_1, fa26_0, ld24, ld26, ln24, sn24, sl24, st26, ev1, es1, q18.rd 3 rfl, q18.rd 6 rfl, q18.rd 9 rfl, q18.rd 10 rfl, q16.rd 3 rfl, q16.rd 6 rfl, q16.rd 9 rfl, q16.rd 10 rfl, q17.rd 3 rfl, q17.rd 6 rfl, q17.rd 9 rfl, q17.rd 10 rfl]
          -- end1
          exact ⟨_, _, xs1, xd1, _, _, [x1] ++ (xs1).tail, xd3, rfl, (q18.out hcb0).give [7, 8, 0, 1] (by decide) _ rfl, (by first | omega | (simp; omega) | simp), (by first | omega | (simp; omega) | simp), (by first | omega | (simp; omega) | simp), (by first | omega | (simp; omega) | simp)⟩
        ·
          try simp -implicitDefEqProofs only [kz, kk0, kk1, kk2, kk3, ↓two_true, ↓two_false, mkv, aggAt, Nat.reduceLeDiff, Nat.reduceSub, Nat.reduceMul, implies_true, Nat.reduceEqDiff, reduceIte, Nat.reduceAdd, Nat.reduceBEq, reduceCtorEq, al26, ap24_24, bs24_1, fa26_0, ld24, ld26, ln24, sn24, sl24, st26, ev1, es1, q14.rd 1 rfl, q14.rd 4 rfl, q14.rd 7 rfl, q14.rd 8 rfl]
          refine st_set q14 8 rfl fun H19 q19 => ?_
          simp only [List.set_cons_zero, List.set_cons_succ] at q19
          simp -implicitDefEqProofs only [kz, kk0, kk1, kk2, kk3, ↓two_true, ↓two_false, mkv, aggAt, Nat.reduceLeDiff, Nat.reduceSub, Nat.reduceMul, implies_true, Nat.reduceEqDiff, reduceIte, Nat.reduceAdd, Nat.reduceBEq, reduceCtorEq, al26, ap24_24, bs24_1, fa26_0, ld24, ld26, ln24, sn24, sl24, st26, ev1, es1, q19.rd 1 rfl, q19.rd 4 rfl, q19.rd 7 rfl, q19.rd 8 rfl, q14.rd 1 rfl, q14.rd 4 rfl, q14.rd 7 rfl, q14.rd 8 rfl]
          refine st_set q19 7 rfl fun H20 q20 => ?_
          simp only [List.set_cons_zero, List.set_cons_succ] at q20
          simp -implicitDefEqProofs only [kz, kk0, kk1, kk2, kk3, ↓two_true, ↓two_false, mkv, aggAt, Nat.reduceLeDiff, Nat.reduceSub, Nat.reduceMul, implies_true, Nat.reduceEqDiff, reduceIte, Nat.reduceAdd, Nat.reduceBEq, reduceCtorEq, al26, ap24_24, bs24_1, fa26_0, ld24, ld26, ln24, sn24, sl24, st26, ev1, es1, q20.rd 1 rfl, q20.rd 4 rfl, q20.rd 7 rfl, q20.rd 8 rfl, q14.rd 1 rfl, q14.rd 4 rfl, q14.rd 7 rfl, q14.rd 8 rfl, q19.rd 1 rfl, q19.rd 4 rfl, q19.rd 7 rfl, q19.rd 8 rfl]
          -- end2
          exact ⟨_, _, xs1, xd1, _, _, xs2, xd2, rfl, (q20.out hcb0).give [5, 6, 2, 3] (by decide) _ rfl, (by first | omega | (simp; omega) | simp), (by first | omega | (simp; omega) | simp), (by first | omega | (simp; omega) | simp), (by first | omega | (simp; omega) | simp)⟩
      ·
        try simp -implicitDefEqProofs only [kz, kk0, kk1, kk2, kk3, ↓two_true, ↓two_false, mkv, aggAt, Nat.reduceLeDiff, Nat.reduceSub, Nat.reduceMul, implies_true, Nat.reduceEqDiff, reduceIte, Nat.reduceAdd, Nat.reduceBEq, reduceCtorEq, al26, ap24_24, bs24_1, fa26_0, ld24, ld26, ln24, sn24, sl24, st26, q11.rd 0 rfl, q11.rd 3 rfl, q11.rd 6 rfl, q11.rd 7 rfl]
        refine st_set q11 7 rfl fun H21 q21 => ?_
        simp only [List.set_cons_zero, List.set_cons_succ] at q21
        simp -implicitDefEqProofs only [kz, kk0, kk1, kk2, kk3, ↓two_true, ↓two_false, mkv, aggAt, Nat.reduceLeDiff, Nat.reduceSub, Nat.reduceMul, implies_true, Nat.reduceEqDiff, reduceIte, Nat.reduceAdd, Nat.reduceBEq, reduceCtorEq, al26, ap24_24, bs24_1, fa26_0, ld24, ld26, ln24, sn24, sl24, st26, q21.rd 0 rfl, q21.rd 3 rfl, q21.rd 6 rfl, q21.rd 7 rfl, q11.rd 0 rfl, q11.rd 3 rfl, q11.rd 6 rfl, q11.rd 7 rfl]
        refine st_set q21 6 rfl fun H22 q22 => ?_
        simp only [List.set_cons_zero, List.set_cons_succ] at q22
        simp -implicitDefEqProofs only [kz, kk0, kk1, kk2, kk3, ↓two_true, ↓two_false, mkv, aggAt, Nat.reduceLeDiff, Nat.reduceSub, Nat.reduceMul, implies_true, Nat.reduceEqDiff, reduceIte, Nat.reduceAdd, Nat.reduceBEq, reduceCtorEq, al26, ap24_24, bs24_1, fa26_0, ld24, ld26, ln24, sn24, sl24, st26, q22.rd 0 rfl, q22.rd 3 rfl, q22.rd 6 rfl, q22.rd 7 rfl, q11.rd 0 rfl, q11.rd 3 rfl, q11.rd 6 rfl, q11.rd 7 rfl, q21.rd 0 rfl, q21.rd 3 rfl, q21.rd 6 rfl, q21.rd 7 rfl]
        -- end3
        exact ⟨_, _, xs1, xd1, _, _, xs2, xd2, rfl, (q22.out hcb0).give [4, 5, 1, 2] (by decide) _ rfl, (by first | omega | (simp; omega) | simp), (by first | omega | (simp; omega) | simp), (by first | omega | (simp; omega) | simp), (by first | omega | (simp; omega) | simp)⟩
    ·
      try simp -implicitDefEqProofs only [kz, kk0, kk1, kk2, kk3, ↓two_true, ↓two_false, mkv, aggAt, Nat.reduceLeDiff, Nat.reduceSub, Nat.reduceMul, implies_true, Nat.reduceEqDiff, reduceIte, Nat.reduceAdd, Nat.reduceBEq, reduceCtorEq, al26, ap24_24, bs24_1, fa26_0, ld24, ld26, ln24, sn24, sl24, st26, q10.rd 0 rfl, q10.rd 3 rfl, q10.rd 6 rfl, q10.rd 7 rfl]
      refine st_set q10 7 rfl fun H23 q23 => ?_
      simp only [List.set_cons_zero, List.set_cons_succ] at q23
      simp -implicitDefEqProofs only [kz, kk0, kk1, kk2, kk3, ↓two_true, ↓two_false, mkv, aggAt, Nat.reduceLeDiff, Nat.reduceSub, Nat.reduceMul, implies_true, Nat.reduceEqDiff, reduceIte, Nat.reduceAdd, Nat.reduceBEq, reduceCtorEq, al26, ap24_24, bs24_1, fa26_0, ld24, ld26, ln24, sn24, sl24, st26, q23.rd 0 rfl, q23.rd 3 rfl, q23.rd 6 rfl, q23.rd 7 rfl, q10.rd 0 rfl, q10.rd 3 rfl, q10.rd 6 rfl, q10.rd 7 rfl]
      refine st_set q23 6 rfl fun H24 q24 => ?_
      simp only [List.set_cons_zero, List.set_cons_succ] at q24
      simp -implicitDefEqProofs only [kz, kk0, kk1, kk2, kk3, ↓two_true, ↓two_false, mkv, aggAt, Nat.reduceLeDiff, Nat.reduceSub, Nat.reduceMul, implies_true, Nat.reduceEqDiff, reduceIte, Nat.reduceAdd, Nat.reduceBEq, reduceCtorEq, al26, ap24_24, bs24_1, fa26_0, ld24, ld26, ln24, sn24, sl24, st26, q24.rd 0 rfl, q24.rd 3 rfl, q24.rd 6 rfl, q24.rd 7 rfl, q10.rd 0 rfl, q10.rd 3 rfl, q10.rd 6 rfl, q10.rd 7 rfl, q23.rd 0 rfl, q23.rd 3 rfl, q23.rd 6 rfl, q23.rd 7 rfl]
      -- end4
      exact ⟨_, _, xs1, xd1, _, _, xs2, xd2, rfl, (q24.out hcb0).give [4, 5, 1, 2] (by decide) _ rfl, (by first | omega | (simp; omega) | simp), (by first | omega | (simp; omega) | simp), (by first | omega | (simp; omega) | simp), (by first | omega | (simp; omega) | simp)⟩
  ·
    try simp -implicitDefEqProofs only [kz, kk0, kk1, kk2, kk3, ↓two_true, ↓two_false, mkv, aggAt, Nat.reduceLeDiff, Nat.reduceSub, Nat.reduceMul, implies_true, Nat.reduceEqDiff, reduceIte, Nat.reduceAdd, Nat.reduceBEq, reduceCtorEq, al26, ap24_24, bs24_1, fa26_0, ld24, ld26, ln24, sn24, sl24, st26, q10.rd 0 rfl, q10.rd 3 rfl, q10.rd 6 rfl, q10.rd 7 rfl]
    refine st_set q10 7 rfl fun H25 q25 => ?_
    simp only [List.set_cons_zero, List.set_cons_succ] at q25
    simp -implicitDefEqProofs only [kz, kk0, kk1, kk2, kk3, ↓two_true, ↓two_false, mkv, aggAt, Nat.reduceLeDiff, Nat.reduceSub, Nat.reduceMul, implies_true, Nat.reduceEqDiff, reduceIte, Nat.reduceAdd, Nat.reduceBEq, reduceCtorEq, al26, ap24_24, bs24_1, fa26_0, ld24, ld26, ln24, sn24, sl24, st26, q25.rd 0 rfl, q25.rd 3 rfl, q25.rd 6 rfl, q25.rd 7 rfl, q10.rd 0 rfl, q10.rd 3 rfl, q10.rd 6 rfl, q10.rd 7 rfl]
    refine st_set q25 6 rfl fun H26 q26 => ?_
    simp only [List.set_cons_zero, List.set_cons_succ] at q26
    simp -implicitDefEqProofs only [kz, kk0, kk1, kk2, kk3, ↓two_true, ↓two_false, mkv, aggAt, Nat.reduceLeDiff, Nat.reduceSub, Nat.reduceMul, implies_true, Nat.reduceEqDiff, reduceIte, Nat.reduceAdd, Nat.reduceBEq, reduceCtorEq, al26, ap24_24, bs24_1, fa26_0, ld24, ld26, ln24, sn24, sl24, st26, q26.rd 0 rfl, q26.rd 3 rfl, q26.rd 6 rfl, q26.rd 7 rfl, q10.rd 0 rfl, q10.rd 3 rfl, q10.rd 6 rfl, q10.rd 7 rfl, q25.rd 0 rfl, q25.rd 3 rfl, q25.rd 6 rfl, q25.rd 7 rfl]
    -- end5
    exact ⟨_, _, xs1, xd1, _, _, xs2, xd2, rfl, (q26.out hcb0).give [4, 5, 1, 2] (by decide) _ rfl, (by first | omega | (simp; omega) | simp), (by first | omega | (simp; omega) | simp), (by first | omega | (simp; omega) | simp), (by first | omega | (simp; omega) | simp)⟩

theorem joinA_err {sa da sb db : List Int} {R : (List Int × List Int) × Int} (hR : joinA sa da sb db = R) (h : R.2 ≠ 0) : R.1.2 = [] := by
  unfold joinA at hR
  repeat' split at hR
  all_goals subst hR
  all_goals first | rfl | exact absurd rfl h
theorem joinA_ok {sa da sb db : List Int} {R : (List Int × List Int) × Int} (hR : joinA sa da sb db = R) (h : R.2 = 0) : arrOk sa da = true ∧ arrOk sb db = true ∧ arrOk R.1.1 R.1.2 = true ∧ R = (((((asR sa da).headD 0 + (asR sb db).headD 0) :: (asR sa da).tail), da ++ db), 0) := by
  unfold joinA at hR
  split at hR
  · rename_i h1
    simp only [Bool.and_eq_true] at h1
    split at hR
    · subst hR; exact absurd h (show ¬ ((4 : Int) = 0) by decide)
    · split at hR
      · subst hR; exact absurd h (show ¬ ((3 : Int) = 0) by decide)
      · split at hR
        · rename_i h4
          exact ⟨h1.1, h1.2, by rw [← hR]; exact h4, hR.symm⟩
        · subst hR; exact absurd h (show ¬ ((6 : Int) = 0) by decide)
  · subst hR; exact absurd h (show ¬ ((1 : Int) = 0) by decide)
theorem joinA_lim {sa da sb db : List Int} : (joinA sa da sb db).1.1.length ≤ 300 ∧ (joinA sa da sb db).1.2.length ≤ 300 := by
  unfold joinA
  split
  · split
    · simp
    · split
      · simp
      · split
        · rename_i h
          have h1 := arrOk_size h
          have h2 := (sizeI_ok (by omega : 0 ≤ sizeI (((asR sa da).headD 0 + (asR sb db).headD 0) :: (asR sa da).tail))).1
          exact ⟨by simp only; omega, h1.2⟩
        · simp
  · simp
theorem vec_shape {sa da : List Int} (h : arrOk sa da = true) (h1 : sa.length = 1) : sa = [(da.length : Int)] := by
  match sa, h1 with
  | [x], _ =>
    have h2 := arrOk_size h
    obtain ⟨_, _, e3⟩ := sizeI_ok (l := [x]) (by omega)
    have : x = da.length := by simp [prodI] at e3; omega
    rw [this]
theorem twoF_add {x y : Int} (hx : numOk x = true) (hy : numOk y = true) : twoF 43 x y = if numOk (x + y) = true then (x + y, 0) else (0, 6) := by
  unfold twoF
  rw [hx, hy, show sg2 43 = true by decide]
  have hr : raw2 43 x y = x + y := by simp [raw2]
  rw [hr]
  rfl
theorem redV_sum {l : List Int} (hl : l.all numOk = true) : ((redV 43 l).2 = 0 → (redV 43 l).1 = l.sum) ∧ ((redV 43 l).2 = 0 ∨ (redV 43 l).2 = 6) := by
  induction l with
  | nil => exact ⟨fun _ => rfl, .inl rfl⟩
  | cons x l ih =>
    cases l with
    | nil => exact ⟨fun _ => by simp [redV], .inl rfl⟩
    | cons y l =>
      have hl2 := hl
      simp only [List.all_cons, Bool.and_eq_true] at hl
      obtain ⟨i1, i2⟩ := ih (by simp only [List.all_cons, Bool.and_eq_true]; exact hl.2)
      have hn := redV_num (s := 43) (l := y :: l) (by simp only [List.all_cons, Bool.and_eq_true]; exact hl.2) (by simp)
      simp only [redV]
      by_cases hz : (redV 43 (y :: l)).2 = 0
      · rw [if_pos hz, twoF_add hl.1 hn]
        split
        · exact ⟨fun _ => by simp only [i1 hz, List.sum_cons], .inl rfl⟩
        · exact ⟨fun h => absurd h (show ¬ ((6 : Int) = 0) by decide), .inr rfl⟩
      · rw [if_neg hz]
        exact ⟨fun h => absurd h hz, i2⟩
theorem redN_sum {l : List Int} (hl : l.all numOk = true) : ((redN 43 l).2 = 0 → (redN 43 l).1 = l.sum ∧ numOk (redN 43 l).1 = true) ∧ ((redN 43 l).2 = 0 ∨ (redN 43 l).2 = 6) := by
  unfold redN
  split
  · rename_i h
    have : l = [] := List.eq_nil_of_length_eq_zero h
    subst this
    exact ⟨fun _ => ⟨rfl, by decide⟩, .inl rfl⟩
  · rename_i h
    have h2 := redV_sum hl
    exact ⟨fun h3 => ⟨h2.1 h3, redV_num hl (by rintro rfl; exact h rfl)⟩, h2.2⟩
theorem sclR_zero {R : Int × Int} {S : (List Int × List Int) × Int} (h : sclR R = S) (h0 : S.2 = 0) : R.2 = 0 ∧ S = (([], [R.1]), 0) := by
  subst h
  unfold sclR at h0 ⊢
  split
  · rename_i h; exact ⟨h, rfl⟩
  · rename_i h; rw [if_neg h] at h0; exact absurd h0 h
theorem sclR_code {R : Int × Int} {S : (List Int × List Int) × Int} (h : sclR R = S) (h6 : R.2 = 0 ∨ R.2 = 6) : S.2 = 0 ∨ S.2 = 6 := by
  subst h
  unfold sclR
  split
  · exact .inl rfl
  · exact h6
theorem sums_eq {da db : List Int} {R2 R3 R4 : (List Int × List Int) × Int} (h2 : sclR (redN 43 da) = R2) (h3 : sclR (redN 43 db) = R3) (h4 : sclR (redN 43 (da ++ db)) = R4) (na : da.all numOk = true) (nb : db.all numOk = true) (z2 : R2.2 = 0) (z3 : R3.2 = 0) (z4 : R4.2 = 0) : each2R 43 R2.1.1 R2.1.2 R3.1.1 R3.1.2 = R4 := by
  obtain ⟨y2, e2⟩ := sclR_zero h2 z2
  obtain ⟨y3, e3⟩ := sclR_zero h3 z3
  obtain ⟨y4, e4⟩ := sclR_zero h4 z4
  have nab : (da ++ db).all numOk = true := by rw [List.all_append, na, nb]; rfl
  obtain ⟨s2, n2⟩ := (redN_sum na).1 y2
  obtain ⟨s3, n3⟩ := (redN_sum nb).1 y3
  obtain ⟨s4, n4⟩ := (redN_sum nab).1 y4
  rw [e2, e3, e4]
  simp only
  rw [each2R_scl (by decide) n2 n3, twoF_add n2 n3]
  have e : (redN 43 da).1 + (redN 43 db).1 = (redN 43 (da ++ db)).1 := by rw [s2, s3, s4, List.sum_append]
  rw [e, if_pos n4]
  rfl

set_option maxHeartbeats 4000000 in
theorem law9 : LawA Try.prog 9 [22] := by
  intro H vs hro h
  obtain ⟨v, vs, rfl, hv, h2⟩ := h.cons
  obtain rfl := h2.nil
  obtain ⟨a0, n0, c0, rfl, hb⟩ := rpBytes hv Try.underlying22 Try.underlying5 (by kernel_rfl)
  clear hv h2 hro
  have q := (LX.nil (H := H))
  refine w9 ?_
  unfold k9
  simp -implicitDefEqProofs only [kz, kk0, kk1, kk2, kk3, ↓two_true, ↓two_false, mkv, aggAt, Nat.reduceLeDiff, Nat.reduceSub, Nat.reduceMul, implies_true, Nat.reduceEqDiff, reduceIte, Nat.reduceAdd, Nat.reduceBEq, reduceCtorEq, al26, fa26_0, fa26_1, ld24, ld26, ln24, st26, big_eq, bne_self_eq_false, beq_self_eq_true, Bool.not_true, Bool.and_self, cast0]
  refine two_intro (fun u1 => ?_) (fun u1 => ?_)
  ·
    try simp -implicitDefEqProofs only [kz, kk0, kk1, kk2, kk3, ↓two_true, ↓two_false, mkv, aggAt, Nat.reduceLeDiff, Nat.reduceSub, Nat.reduceMul, implies_true, Nat.reduceEqDiff, reduceIte, Nat.reduceAdd, Nat.reduceBEq, reduceCtorEq, al26, fa26_0, fa26_1, ld24, ld26, ln24, st26, big_eq, bne_self_eq_false, beq_self_eq_true, Bool.not_true, Bool.and_self, cast0]
    -- end1
    all_goals trivial
  ·
    have hn0 : n0 ≤ 1048576 := by simp at u1; omega
    try simp -implicitDefEqProofs only [kz, kk0, kk1, kk2, kk3, ↓two_true, ↓two_false, mkv, aggAt, Nat.reduceLeDiff, Nat.reduceSub, Nat.reduceMul, implies_true, Nat.reduceEqDiff, reduceIte, Nat.reduceAdd, Nat.reduceBEq, reduceCtorEq, al26, fa26_0, fa26_1, ld24, ld26, ln24, st26, big_eq, bne_self_eq_false, beq_self_eq_true, Bool.not_true, Bool.and_self, cast0]
    refine (DrawJoin_ok (BRv.ext ⟨a0, n0, c0, rfl, hn0, hb⟩ q.ext)).mono ?_
    rintro _ H1 ⟨p1, p2, sa, da, p3, p4, sb, db, rfl, g1, lsa, lda, lsb, ldb⟩
    have q1 := q.join g1
    simp only [List.map_cons, List.map_nil, List.cons_append, List.nil_append] at q1
    obtain ⟨a1, c1, rfl⟩ := (q1.own 0 rfl).isSlice
    obtain ⟨a2, c2, rfl⟩ := (q1.own 1 rfl).isSlice
    obtain ⟨a3, c3, rfl⟩ := (q1.own 2 rfl).isSlice
    obtain ⟨a4, c4, rfl⟩ := (q1.own 3 rfl).isSlice
    simp -implicitDefEqProofs only [kz, kk0, kk1, kk2, kk3, ↓two_true, ↓two_false, mkv, aggAt, Nat.reduceLeDiff, Nat.reduceSub, Nat.reduceMul, implies_true, Nat.reduceEqDiff, reduceIte, Nat.reduceAdd, Nat.reduceBEq, reduceCtorEq, al26, fa26_0, fa26_1, ld24, ld26, ln24, st26, big_eq, bne_self_eq_false, beq_self_eq_true, Bool.not_true, Bool.and_self, cast0]
    refine st_box q1 fun H2 q2 => ?_
    simp -implicitDefEqProofs only [kz, kk0, kk1, kk2, kk3, ↓two_true, ↓two_false, mkv, aggAt, Nat.reduceLeDiff, Nat.reduceSub, Nat.reduceMul, implies_true, Nat.reduceEqDiff, reduceIte, Nat.reduceAdd, Nat.reduceBEq, reduceCtorEq, al26, fa26_0, fa26_1, ld24, ld26, ln24, st26, big_eq, bne_self_eq_false, beq_self_eq_true, Bool.not_true, Bool.and_self, cast0, q2.rd 0 rfl]
    refine st_box q2 fun H3 q3 => ?_
    simp -implicitDefEqProofs only [kz, kk0, kk1, kk2, kk3, ↓two_true, ↓two_false, mkv, aggAt, Nat.reduceLeDiff, Nat.reduceSub, Nat.reduceMul, implies_true, Nat.reduceEqDiff, reduceIte, Nat.reduceAdd, Nat.reduceBEq, reduceCtorEq, al26, fa26_0, fa26_1, ld24, ld26, ln24, st26, big_eq, bne_self_eq_false, beq_self_eq_true, Bool.not_true, Bool.and_self, cast0, q3.rd 0 rfl, q3.rd 1 rfl]
    refine st_set q3 1 rfl fun H4 q4 => ?_
    simp only [List.set_cons_zero, List.set_cons_succ] at q4
    simp -implicitDefEqProofs only [kz, kk0, kk1, kk2, kk3, ↓two_true, ↓two_false, mkv, aggAt, Nat.reduceLeDiff, Nat.reduceSub, Nat.reduceMul, implies_true, Nat.reduceEqDiff, reduceIte, Nat.reduceAdd, Nat.reduceBEq, reduceCtorEq, al26, fa26_0, fa26_1, ld24, ld26, ln24, st26, big_eq, bne_self_eq_false, beq_self_eq_true, Bool.not_true, Bool.and_self, cast0, q4.rd 0 rfl, q4.rd 1 rfl]
    refine st_set q4 0 rfl fun H5 q5 => ?_
    simp only [List.set_cons_zero, List.set_cons_succ] at q5
    simp -implicitDefEqProofs only [kz, kk0, kk1, kk2, kk3, ↓two_true, ↓two_false, mkv, aggAt, Nat.reduceLeDiff, Nat.reduceSub, Nat.reduceMul, implies_true, Nat.reduceEqDiff, reduceIte, Nat.reduceAdd, Nat.reduceBEq, reduceCtorEq, al26, fa26_0, fa26_1, ld24, ld26, ln24, st26, big_eq, bne_self_eq_false, beq_self_eq_true, Bool.not_true, Bool.and_self, cast0, q5.rd 0 rfl, q5.rd 1 rfl]
    refine (implJoin_ok (q5.ar 2 3 rfl rfl (by (try simp only [List.length_cons, List.length_nil, List.length_append, List.length_replicate, List.length_map, List.length_take, List.length_drop]); omega) (by (try simp only [List.length_cons, List.length_nil, List.length_append, List.length_replicate, List.length_map, List.length_take, List.length_drop]); omega)) (q5.ar 4 5 rfl rfl (by (try simp only [List.length_cons, List.length_nil, List.length_append, List.length_replicate, List.length_map, List.length_take, List.length_drop]); omega) (by (try simp only [List.length_cons, List.length_nil, List.length_append, List.length_replicate, List.length_map, List.length_take, List.length_drop]); omega))).mono ?_
    rintro _ H6 ⟨p5, p6, rfl, g2⟩
    obtain ⟨R1, hR1⟩ : ∃ R, joinA sa da sb db = R := ⟨_, rfl⟩
    rw [hR1] at g2 ⊢
    have q6 := q5.join g2
    simp only [List.map_cons, List.map_nil, List.cons_append, List.nil_append] at q6
    obtain ⟨a5, c5, rfl⟩ := (q6.own 0 rfl).isSlice
    obtain ⟨a6, c6, rfl⟩ := (q6.own 1 rfl).isSlice
    have hRl : R1.1.1.length ≤ 300 ∧ R1.1.2.length ≤ 300 := by rw [← hR1]; exact joinA_lim
    simp -implicitDefEqProofs only [kz, kk0, kk1, kk2, kk3, ↓two_true, ↓two_false, mkv, aggAt, Nat.reduceLeDiff, Nat.reduceSub, Nat.reduceMul, implies_true, Nat.reduceEqDiff, reduceIte, Nat.reduceAdd, Nat.reduceBEq, reduceCtorEq, al26, fa26_0, fa26_1, ld24, ld26, ln24, st26, big_eq, bne_self_eq_false, beq_self_eq_true, Bool.not_true, Bool.and_self, cast0, q6.rd 2 rfl, q6.rd 3 rfl]
    refine st_box q6 fun H7 q7 => ?_
    simp -implicitDefEqProofs only [kz, kk0, kk1, kk2, kk3, ↓two_true, ↓two_false, mkv, aggAt, Nat.reduceLeDiff, Nat.reduceSub, Nat.reduceMul, implies_true, Nat.reduceEqDiff, reduceIte, Nat.reduceAdd, Nat.reduceBEq, reduceCtorEq, al26, fa26_0, fa26_1, ld24, ld26, ln24, st26, big_eq, bne_self_eq_false, beq_self_eq_true, Bool.not_true, Bool.and_self, cast0, q7.rd 0 rfl, q7.rd 3 rfl, q7.rd 4 rfl]
    refine st_set q7 0 rfl fun H8 q8 => ?_
    simp only [List.set_cons_zero, List.set_cons_succ] at q8
    simp -implicitDefEqProofs only [kz, kk0, kk1, kk2, kk3, ↓two_true, ↓two_false, mkv, aggAt, Nat.reduceLeDiff, Nat.reduceSub, Nat.reduceMul, implies_true, Nat.reduceEqDiff, reduceIte, Nat.reduceAdd, Nat.reduceBEq, reduceCtorEq, al26, fa26_0, fa26_1, ld24, ld26, ln24, st26, big_eq, bne_self_eq_false, beq_self_eq_true, Bool.not_true, Bool.and_self, cast0, q8.rd 0 rfl, q8.rd 3 rfl, q8.rd 4 rfl]
    refine (specJoin_ok (q8.ar 5 6 rfl rfl (by (try simp only [List.length_cons, List.length_nil, List.length_append, List.length_replicate, List.length_map, List.length_take, List.length_drop]); omega) (by (try simp only [List.length_cons, List.length_nil, List.length_append, List.length_replicate, List.length_map, List.length_take, List.length_drop]); omega)) (q8.ar 7 8 rfl rfl (by (try simp only [List.length_cons, List.length_nil, List.length_append, List.length_replicate, List.length_map, List.length_take, List.length_drop]); omega) (by (try simp only [List.length_cons, List.length_nil, List.length_append, List.length_replicate, List.length_map, List.length_take, List.length_drop]); omega))).mono ?_
    rintro _ H9 ⟨p7, p8, rfl, g3⟩
    rw [hR1] at g3 ⊢
    have q9 := q8.join g3
    simp only [List.map_cons, List.map_nil, List.cons_append, List.nil_append] at q9
    obtain ⟨a7, c7, rfl⟩ := (q9.own 0 rfl).isSlice
    obtain ⟨a8, c8, rfl⟩ := (q9.own 1 rfl).isSlice
    simp -implicitDefEqProofs only [kz, kk0, kk1, kk2, kk3, ↓two_true, ↓two_false, mkv, aggAt, Nat.reduceLeDiff, Nat.reduceSub, Nat.reduceMul, implies_true, Nat.reduceEqDiff, reduceIte, Nat.reduceAdd, Nat.reduceBEq, reduceCtorEq, al26, fa26_0, fa26_1, ld24, ld26, ln24, st26, big_eq, bne_self_eq_false, beq_self_eq_true, Bool.not_true, Bool.and_self, cast0, q9.rd 2 rfl, q9.rd 5 rfl, q9.rd 6 rfl]
    refine st_box q9 fun H10 q10 => ?_
    simp -implicitDefEqProofs only [kz, kk0, kk1, kk2, kk3, ↓two_true, ↓two_false, mkv, aggAt, Nat.reduceLeDiff, Nat.reduceSub, Nat.reduceMul, implies_true, Nat.reduceEqDiff, reduceIte, Nat.reduceAdd, Nat.reduceBEq, reduceCtorEq, al26, fa26_0, fa26_1, ld24, ld26, ln24, st26, big_eq, bne_self_eq_false, beq_self_eq_true, Bool.not_true, Bool.and_self, cast0, q10.rd 0 rfl, q10.rd 3 rfl, q10.rd 6 rfl, q10.rd 7 rfl]
    refine st_set q10 0 rfl fun H11 q11 => ?_
    simp only [List.set_cons_zero, List.set_cons_succ] at q11
    simp -implicitDefEqProofs only [kz, kk0, kk1, kk2, kk3, ↓two_true, ↓two_false, mkv, aggAt, Nat.reduceLeDiff, Nat.reduceSub, Nat.reduceMul, implies_true, Nat.reduceEqDiff, reduceIte, Nat.reduceAdd, Nat.reduceBEq, reduceCtorEq, al26, fa26_0, fa26_1, ld24, ld26, ln24, st26, big_eq, bne_self_eq_false, beq_self_eq_true, Bool.not_true, Bool.and_self, cast0, q11.rd 0 rfl, q11.rd 3 rfl, q11.rd 6 rfl, q11.rd 7 rfl]
    refine two_intro (fun u2 => ?_) (fun u2 => ?_)
    ·
      have hR0 : R1.2 ≠ 0 := by simpa using u2
      have hRn := joinA_err hR1 hR0
      try simp -implicitDefEqProofs only [kz, kk0, kk1, kk2, kk3, ↓two_true, ↓two_false, mkv, aggAt, Nat.reduceLeDiff, Nat.reduceSub, Nat.reduceMul, implies_true, Nat.reduceEqDiff, reduceIte, Nat.reduceAdd, Nat.reduceBEq, reduceCtorEq, al26, fa26_0, fa26_1, ld24, ld26, ln24, st26, big_eq, bne_self_eq_false, beq_self_eq_true, Bool.not_true, Bool.and_self, cast0, q11.rd 0 rfl, q11.rd 3 rfl, q11.rd 6 rfl, q11.rd 7 rfl]
      refine two_intro (fun u3 => ?_) (fun u3 => ?_)
      ·
        try simp -implicitDefEqProofs only [kz, kk0, kk1, kk2, kk3, ↓two_true, ↓two_false, mkv, aggAt, Nat.reduceLeDiff, Nat.reduceSub, Nat.reduceMul, implies_true, Nat.reduceEqDiff, reduceIte, Nat.reduceAdd, Nat.reduceBEq, reduceCtorEq, al26, fa26_0, fa26_1, ld24, ld26, ln24, st26, big_eq, bne_self_eq_false, beq_self_eq_true, Bool.not_true, Bool.and_self, cast0, q11.rd 0 rfl, q11.rd 3 rfl, q11.rd 6 rfl, q11.rd 7 rfl]
        -- end2
        all_goals first | rfl | (rw [hRn]; rfl) | (simp; done) | (simp [*]; done) | (rcases n4 with h | h | h <;> simp_all; done) | (exfalso; simp_all; done)
      ·
        try simp -implicitDefEqProofs only [kz, kk0, kk1, kk2, kk3, ↓two_true, ↓two_false, mkv, aggAt, Nat.reduceLeDiff, Nat.reduceSub, Nat.reduceMul, implies_true, Nat.reduceEqDiff, reduceIte, Nat.reduceAdd, Nat.reduceBEq, reduceCtorEq, al26, fa26_0, fa26_1, ld24, ld26, ln24, st26, big_eq, bne_self_eq_false, beq_self_eq_true, Bool.not_true, Bool.and_self, cast0, q11.rd 0 rfl, q11.rd 3 rfl, q11.rd 6 rfl, q11.rd 7 rfl]
        -- end3
        all_goals first | rfl | (rw [hRn]; rfl) | (simp; done) | (simp [*]; done) | (rcases n4 with h | h | h <;> simp_all; done) | (exfalso; simp_all; done)
    ·
      have hR0 : R1.2 = 0 := by simpa using u2
      try simp -implicitDefEqProofs only [kz, kk0, kk1, kk2, kk3, ↓two_true, ↓two_false, mkv, aggAt, Nat.reduceLeDiff, Nat.reduceSub, Nat.reduceMul, implies_true, Nat.reduceEqDiff, reduceIte, Nat.reduceAdd, Nat.reduceBEq, reduceCtorEq, al26, fa26_0, fa26_1, ld24, ld26, ln24, st26, big_eq, bne_self_eq_false, beq_self_eq_true, Bool.not_true, Bool.and_self, cast0, q11.rd 0 rfl, q11.rd 3 rfl, q11.rd 6 rfl, q11.rd 7 rfl]
      refine two_intro (fun u4 => ?_) (fun u4 => ?_)
      ·
        try simp -implicitDefEqProofs only [kz, kk0, kk1, kk2, kk3, ↓two_true, ↓two_false, mkv, aggAt, Nat.reduceLeDiff, Nat.reduceSub, Nat.reduceMul, implies_true, Nat.reduceEqDiff, reduceIte, Nat.reduceAdd, Nat.reduceBEq, reduceCtorEq, al26, fa26_0, fa26_1, ld24, ld26, ln24, st26, big_eq, bne_self_eq_false, beq_self_eq_true, Bool.not_true, Bool.and_self, cast0, q11.rd 0 rfl, q11.rd 3 rfl, q11.rd 6 rfl, q11.rd 7 rfl]
        refine two_intro (fun u5 => ?_) (fun u5 => ?_)
        ·
          try simp -implicitDefEqProofs only [kz, kk0, kk1, kk2, kk3, ↓two_true, ↓two_false, mkv, aggAt, Nat.reduceLeDiff, Nat.reduceSub, Nat.reduceMul, implies_true, Nat.reduceEqDiff, reduceIte, Nat.reduceAdd, Nat.reduceBEq, reduceCtorEq, al26, fa26_0, fa26_1, ld24, ld26, ln24, st26, big_eq, bne_self_eq_false, beq_self_eq_true, Bool.not_true, Bool.and_self, cast0, q11.rd 0 rfl, q11.rd 3 rfl, q11.rd 6 rfl, q11.rd 7 rfl]
          -- end4
          all_goals first | rfl | (rw [hRn]; rfl) | (simp; done) | (simp [*]; done) | (rcases n4 with h | h | h <;> simp_all; done) | (exfalso; simp_all; done)
        ·
          try simp -implicitDefEqProofs only [kz, kk0, kk1, kk2, kk3, ↓two_true, ↓two_false, mkv, aggAt, Nat.reduceLeDiff, Nat.reduceSub, Nat.reduceMul, implies_true, Nat.reduceEqDiff, reduceIte, Nat.reduceAdd, Nat.reduceBEq, reduceCtorEq, al26, fa26_0, fa26_1, ld24, ld26, ln24, st26, big_eq, bne_self_eq_false, beq_self_eq_true, Bool.not_true, Bool.and_self, cast0, q11.rd 0 rfl, q11.rd 3 rfl, q11.rd 6 rfl, q11.rd 7 rfl]
          -- end5
          all_goals first | rfl | (rw [hRn]; rfl) | (simp; done) | (simp [*]; done) | (rcases n4 with h | h | h <;> simp_all; done) | (exfalso; simp_all; done)
      ·
        have k1 : sa.length = 1 := by have h5 : (sa.length : Int) = 1 := (by simpa using u4); omega
        try simp -implicitDefEqProofs only [kz, kk0, kk1, kk2, kk3, ↓two_true, ↓two_false, mkv, aggAt, Nat.reduceLeDiff, Nat.reduceSub, Nat.reduceMul, implies_true, Nat.reduceEqDiff, reduceIte, Nat.reduceAdd, Nat.reduceBEq, reduceCtorEq, al26, fa26_0, fa26_1, ld24, ld26, ln24, st26, big_eq, bne_self_eq_false, beq_self_eq_true, Bool.not_true, Bool.and_self, cast0, q11.rd 0 rfl, q11.rd 3 rfl, q11.rd 6 rfl, q11.rd 7 rfl]
        refine two_intro (fun u6 => ?_) (fun u6 => ?_)
        ·
          try simp -implicitDefEqProofs only [kz, kk0, kk1, kk2, kk3, ↓two_true, ↓two_false, mkv, aggAt, Nat.reduceLeDiff, Nat.reduceSub, Nat.reduceMul, implies_true, Nat.reduceEqDiff, reduceIte, Nat.reduceAdd, Nat.reduceBEq, reduceCtorEq, al26, fa26_0, fa26_1, ld24, ld26, ln24, st26, big_eq, bne_self_eq_false, beq_self_eq_true, Bool.not_true, Bool.and_self, cast0, q11.rd 0 rfl, q11.rd 3 rfl, q11.rd 6 rfl, q11.rd 7 rfl]
          refine two_intro (fun u7 => ?_) (fun u7 => ?_)
          ·
            try simp -implicitDefEqProofs only [kz, kk0, kk1, kk2, kk3, ↓two_true, ↓two_false, mkv, aggAt, Nat.reduceLeDiff, Nat.reduceSub, Nat.reduceMul, implies_true, Nat.reduceEqDiff, reduceIte, Nat.reduceAdd, Nat.reduceBEq, reduceCtorEq, al26, fa26_0, fa26_1, ld24, ld26, ln24, st26, big_eq, bne_self_eq_false, beq_self_eq_true, Bool.not_true, Bool.and_self, cast0, q11.rd 0 rfl, q11.rd 3 rfl, q11.rd 6 rfl, q11.rd 7 rfl]
            -- end6
            all_goals first | rfl | (rw [hRn]; rfl) | (simp; done) | (simp [*]; done) | (rcases n4 with h | h | h <;> simp_all; done) | (exfalso; simp_all; done)
          ·
            try simp -implicitDefEqProofs only [kz, kk0, kk1, kk2, kk3, ↓two_true, ↓two_false, mkv, aggAt, Nat.reduceLeDiff, Nat.reduceSub, Nat.reduceMul, implies_true, Nat.reduceEqDiff, reduceIte, Nat.reduceAdd, Nat.reduceBEq, reduceCtorEq, al26, fa26_0, fa26_1, ld24, ld26, ln24, st26, big_eq, bne_self_eq_false, beq_self_eq_true, Bool.not_true, Bool.and_self, cast0, q11.rd 0 rfl, q11.rd 3 rfl, q11.rd 6 rfl, q11.rd 7 rfl]
            -- end7
            all_goals first | rfl | (rw [hRn]; rfl) | (simp; done) | (simp [*]; done) | (rcases n4 with h | h | h <;> simp_all; done) | (exfalso; simp_all; done)
        ·
          have m1 : sb.length = 1 := by have h5 : (sb.length : Int) = 1 := (by simpa using u6); omega
          obtain ⟨v1, v2, hRok, hRe⟩ := joinA_ok hR1 hR0
          have hn := vec_shape v1 k1
          have hm := vec_shape v2 m1
          have l1a := arrOk_len v1
          have l1b := arrOk_len v2
          have l1c := arrOk_len hRok
          have hRd : R1.1.2 = da ++ db := by rw [hRe]
          have hRs : R1.1.1 = [((da ++ db).length : Int)] := by
            have e1 : asR sa da = [(da.length : Int)] := by unfold asR; rw [if_neg (by omega)]; exact hn
            have e2 : asR sb db = [(db.length : Int)] := by unfold asR; rw [if_neg (by omega)]; exact hm
            rw [hRe, e1, e2]; simp
          have na : da.all numOk = true := by unfold arrOk at v1; simp only [Bool.and_eq_true] at v1; exact v1.2
          have nb : db.all numOk = true := by unfold arrOk at v2; simp only [Bool.and_eq_true] at v2; exact v2.2
          have nab : (da ++ db).all numOk = true := by rw [List.all_append, na, nb]; rfl
          have l1d : (da ++ db).length ≤ 300 := by rw [← hRd]; exact l1c
          try simp -implicitDefEqProofs only [kz, kk0, kk1, kk2, kk3, ↓two_true, ↓two_false, mkv, aggAt, Nat.reduceLeDiff, Nat.reduceSub, Nat.reduceMul, implies_true, Nat.reduceEqDiff, reduceIte, Nat.reduceAdd, Nat.reduceBEq, reduceCtorEq, al26, fa26_0, fa26_1, ld24, ld26, ln24, st26, big_eq, bne_self_eq_false, beq_self_eq_true, Bool.not_true, Bool.and_self, cast0, q11.rd 0 rfl, q11.rd 3 rfl, q11.rd 6 rfl, q11.rd 7 rfl]
          refine (implReduce_ok (s := 43) (q11.ar 8 9 rfl rfl (by (try simp only [List.length_cons, List.length_nil, List.length_append, List.length_replicate, List.length_map, List.length_take, List.length_drop]); omega) (by (try simp only [List.length_cons, List.length_nil, List.length_append, List.length_replicate, List.length_map, List.length_take, List.length_drop]); omega)) (fun _ => by rw [hn]; exact (show 0 ≤ sizeI [] by decide)) ).mono ?_
          rintro _ H12 ⟨p9, p10, rfl, g4⟩
          obtain ⟨R2, hR2⟩ : ∃ R, reduceR 43 sa da = R := ⟨_, rfl⟩
          rw [hR2] at g4 ⊢
          have q12 := q11.join g4
          simp only [List.map_cons, List.map_nil, List.cons_append, List.nil_append] at q12
          obtain ⟨a9, c9, rfl⟩ := (q12.own 0 rfl).isSlice
          obtain ⟨a10, c10, rfl⟩ := (q12.own 1 rfl).isSlice
          rw [hn, reduceR_redN (by decide) na (by omega)] at hR2
          have hcR2 := sclR_code hR2 (redN_sum na).2
          have hlR2 : R2.1.1.length ≤ 300 ∧ R2.1.2.length ≤ 300 := by rw [← hR2]; exact sclR_lim
          simp -implicitDefEqProofs only [kz, kk0, kk1, kk2, kk3, ↓two_true, ↓two_false, mkv, aggAt, Nat.reduceLeDiff, Nat.reduceSub, Nat.reduceMul, implies_true, Nat.reduceEqDiff, reduceIte, Nat.reduceAdd, Nat.reduceBEq, reduceCtorEq, al26, fa26_0, fa26_1, ld24, ld26, ln24, st26, big_eq, bne_self_eq_false, beq_self_eq_true, Bool.not_true, Bool.and_self, cast0, q12.rd 2 rfl, q12.rd 5 rfl, q12.rd 8 rfl, q12.rd 9 rfl]
          refine st_box q12 fun H13 q13 => ?_
          simp -implicitDefEqProofs only [kz, kk0, kk1, kk2, kk3, ↓two_true, ↓two_false, mkv, aggAt, Nat.reduceLeDiff, Nat.reduceSub, Nat.reduceMul, implies_true, Nat.reduceEqDiff, reduceIte, Nat.reduceAdd, Nat.reduceBEq, reduceCtorEq, al26, fa26_0, fa26_1, ld24, ld26, ln24, st26, big_eq, bne_self_eq_false, beq_self_eq_true, Bool.not_true, Bool.and_self, cast0, q13.rd 0 rfl, q13.rd 3 rfl, q13.rd 6 rfl, q13.rd 9 rfl, q13.rd 10 rfl]
          refine st_set q13 0 rfl fun H14 q14 => ?_
          simp only [List.set_cons_zero, List.set_cons_succ] at q14
          simp -implicitDefEqProofs only [kz, kk0, kk1, kk2, kk3, ↓two_true, ↓two_false, mkv, aggAt, Nat.reduceLeDiff, Nat.reduceSub, Nat.reduceMul, implies_true, Nat.reduceEqDiff, reduceIte, Nat.reduceAdd, Nat.reduceBEq, reduceCtorEq, al26, fa26_0, fa26_1, ld24, ld26, ln24, st26, big_eq, bne_self_eq_false, beq_self_eq_true, Bool.not_true, Bool.and_self, cast0, q14.rd 0 rfl, q14.rd 3 rfl, q14.rd 6 rfl, q14.rd 9 rfl, q14.rd 10 rfl]
          refine (implReduce_ok (s := 43) (q14.ar 13 14 rfl rfl (by (try simp only [List.length_cons, List.length_nil, List.length_append, List.length_replicate, List.length_map, List.length_take, List.length_drop]); omega) (by (try simp only [List.length_cons, List.length_nil, List.length_append, List.length_replicate, List.length_map, List.length_take, List.length_drop]); omega)) (fun _ => by rw [hm]; exact (show 0 ≤ sizeI [] by decide)) ).mono ?_
          rintro _ H15 ⟨p11, p12, rfl, g5⟩
          obtain ⟨R3, hR3⟩ : ∃ R, reduceR 43 sb db = R := ⟨_, rfl⟩
          rw [hR3] at g5 ⊢
          have q15 := q14.join g5
          simp only [List.map_cons, List.map_nil, List.cons_append, List.nil_append] at q15
          obtain ⟨a11, c11, rfl⟩ := (q15.own 0 rfl).isSlice
          obtain ⟨a12, c12, rfl⟩ := (q15.own 1 rfl).isSlice
          rw [hm, reduceR_redN (by decide) nb (by omega)] at hR3
          have hcR3 := sclR_code hR3 (redN_sum nb).2
          have hlR3 : R3.1.1.length ≤ 300 ∧ R3.1.2.length ≤ 300 := by rw [← hR3]; exact sclR_lim
          simp -implicitDefEqProofs only [kz, kk0, kk1, kk2, kk3, ↓two_true, ↓two_false, mkv, aggAt, Nat.reduceLeDiff, Nat.reduceSub, Nat.reduceMul, implies_true, Nat.reduceEqDiff, reduceIte, Nat.reduceAdd, Nat.reduceBEq, reduceCtorEq, al26, fa26_0, fa26_1, ld24, ld26, ln24, st26, big_eq, bne_self_eq_false, beq_self_eq_true, Bool.not_true, Bool.and_self, cast0, q15.rd 2 rfl, q15.rd 5 rfl, q15.rd 8 rfl, q15.rd 11 rfl, q15.rd 12 rfl]
          refine st_box q15 fun H16 q16 => ?_
          simp -implicitDefEqProofs only [kz, kk0, kk1, kk2, kk3, ↓two_true, ↓two_false, mkv, aggAt, Nat.reduceLeDiff, Nat.reduceSub, Nat.reduceMul, implies_true, Nat.reduceEqDiff, reduceIte, Nat.reduceAdd, Nat.reduceBEq, reduceCtorEq, al26, fa26_0, fa26_1, ld24, ld26, ln24, st26, big_eq, bne_self_eq_false, beq_self_eq_true, Bool.not_true, Bool.and_self, cast0, q16.rd 0 rfl, q16.rd 3 rfl, q16.rd 6 rfl, q16.rd 9 rfl, q16.rd 12 rfl, q16.rd 13 rfl]
          refine st_set q16 0 rfl fun H17 q17 => ?_
          simp only [List.set_cons_zero, List.set_cons_succ] at q17
          simp -implicitDefEqProofs only [kz, kk0, kk1, kk2, kk3, ↓two_true, ↓two_false, mkv, aggAt, Nat.reduceLeDiff, Nat.reduceSub, Nat.reduceMul, implies_true, Nat.reduceEqDiff, reduceIte, Nat.reduceAdd, Nat.reduceBEq, reduceCtorEq, al26, fa26_0, fa26_1, ld24, ld26, ln24, st26, big_eq, bne_self_eq_false, beq_self_eq_true, Bool.not_true, Bool.and_self, cast0, q17.rd 0 rfl, q17.rd 3 rfl, q17.rd 6 rfl, q17.rd 9 rfl, q17.rd 12 rfl, q17.rd 13 rfl]
          refine (implReduce_ok (s := 43) (q17.ar 10 11 rfl rfl (by (try simp only [List.length_cons, List.length_nil, List.length_append, List.length_replicate, List.length_map, List.length_take, List.length_drop]); omega) (by (try simp only [List.length_cons, List.length_nil, List.length_append, List.length_replicate, List.length_map, List.length_take, List.length_drop]); omega)) (fun _ => by rw [hRs]; exact (show 0 ≤ sizeI [] by decide)) ).mono ?_
          rintro _ H18 ⟨p13, p14, rfl, g6⟩
          obtain ⟨R4, hR4⟩ : ∃ R, reduceR 43 R1.1.1 R1.1.2 = R := ⟨_, rfl⟩
          rw [hR4] at g6 ⊢
          have q18 := q17.join g6
          simp only [List.map_cons, List.map_nil, List.cons_append, List.nil_append] at q18
          obtain ⟨a13, c13, rfl⟩ := (q18.own 0 rfl).isSlice
          obtain ⟨a14, c14, rfl⟩ := (q18.own 1 rfl).isSlice
          rw [hRs, hRd, reduceR_redN (by decide) nab l1d] at hR4
          have hcR4 := sclR_code hR4 (redN_sum nab).2
          have hlR4 : R4.1.1.length ≤ 300 ∧ R4.1.2.length ≤ 300 := by rw [← hR4]; exact sclR_lim
          simp -implicitDefEqProofs only [kz, kk0, kk1, kk2, kk3, ↓two_true, ↓two_false, mkv, aggAt, Nat.reduceLeDiff, Nat.reduceSub, Nat.reduceMul, implies_true, Nat.reduceEqDiff, reduceIte, Nat.reduceAdd, Nat.reduceBEq, reduceCtorEq, al26, fa26_0, fa26_1, ld24, ld26, ln24, st26, big_eq, bne_self_eq_false, beq_self_eq_true, Bool.not_true, Bool.and_self, cast0, q18.rd 2 rfl, q18.rd 5 rfl, q18.rd 8 rfl, q18.rd 11 rfl, q18.rd 14 rfl, q18.rd 15 rfl]
          refine st_box q18 fun H19 q19 => ?_
          simp -implicitDefEqProofs only [kz, kk0, kk1, kk2, kk3, ↓two_true, ↓two_false, mkv, aggAt, Nat.reduceLeDiff, Nat.reduceSub, Nat.reduceMul, implies_true, Nat.reduceEqDiff, reduceIte, Nat.reduceAdd, Nat.reduceBEq, reduceCtorEq, al26, fa26_0, fa26_1, ld24, ld26, ln24, st26, big_eq, bne_self_eq_false, beq_self_eq_true, Bool.not_true, Bool.and_self, cast0, q19.rd 0 rfl, q19.rd 3 rfl, q19.rd 6 rfl, q19.rd 9 rfl, q19.rd 12 rfl, q19.rd 15 rfl, q19.rd 16 rfl]
          refine st_set q19 0 rfl fun H20 q20 => ?_
          simp only [List.set_cons_zero, List.set_cons_succ] at q20
          simp -implicitDefEqProofs only [kz, kk0, kk1, kk2, kk3, ↓two_true, ↓two_false, mkv, aggAt, Nat.reduceLeDiff, Nat.reduceSub, Nat.reduceMul, implies_true, Nat.reduceEqDiff, reduceIte, Nat.reduceAdd, Nat.reduceBEq, reduceCtorEq, al26, fa26_0, fa26_1, ld24, ld26, ln24, st26, big_eq, bne_self_eq_false, beq_self_eq_true, Bool.not_true, Bool.and_self, cast0, q20.rd 0 rfl, q20.rd 3 rfl, q20.rd 6 rfl, q20.rd 9 rfl, q20.rd 12 rfl, q20.rd 15 rfl, q20.rd 16 rfl]
          refine two_intro (fun u8 => ?_) (fun u8 => ?_)
          ·
            have n2 : R2.2 = 6 := by have h5 : ¬ R2.2 = 0 := (by simpa using u8); omega
            try simp -implicitDefEqProofs only [kz, kk0, kk1, kk2, kk3, ↓two_true, ↓two_false, mkv, aggAt, Nat.reduceLeDiff, Nat.reduceSub, Nat.reduceMul, implies_true, Nat.reduceEqDiff, reduceIte, Nat.reduceAdd, Nat.reduceBEq, reduceCtorEq, al26, fa26_0, fa26_1, ld24, ld26, ln24, st26, big_eq, bne_self_eq_false, beq_self_eq_true, Bool.not_true, Bool.and_self, cast0, q20.rd 0 rfl, q20.rd 3 rfl, q20.rd 6 rfl, q20.rd 9 rfl, q20.rd 12 rfl, q20.rd 15 rfl, q20.rd 16 rfl]
            refine two_intro (fun u9 => ?_) (fun u9 => ?_)
            ·
              try simp -implicitDefEqProofs only [kz, kk0, kk1, kk2, kk3, ↓two_true, ↓two_false, mkv, aggAt, Nat.reduceLeDiff, Nat.reduceSub, Nat.reduceMul, implies_true, Nat.reduceEqDiff, reduceIte, Nat.reduceAdd, Nat.reduceBEq, reduceCtorEq, al26, fa26_0, fa26_1, ld24, ld26, ln24, st26, big_eq, bne_self_eq_false, beq_self_eq_true, Bool.not_true, Bool.and_self, cast0, q20.rd 0 rfl, q20.rd 3 rfl, q20.rd 6 rfl, q20.rd 9 rfl, q20.rd 12 rfl, q20.rd 15 rfl, q20.rd 16 rfl]
              -- end8
              all_goals first | rfl | (rw [hRn]; rfl) | (simp; done) | (simp [*]; done) | (rcases n4 with h | h | h <;> simp_all; done) | (exfalso; simp_all; done)
            ·
              try simp -implicitDefEqProofs only [kz, kk0, kk1, kk2, kk3, ↓two_true, ↓two_false, mkv, aggAt, Nat.reduceLeDiff, Nat.reduceSub, Nat.reduceMul, implies_true, Nat.reduceEqDiff, reduceIte, Nat.reduceAdd, Nat.reduceBEq, reduceCtorEq, al26, fa26_0, fa26_1, ld24, ld26, ln24, st26, big_eq, bne_self_eq_false, beq_self_eq_true, Bool.not_true, Bool.and_self, cast0, q20.rd 0 rfl, q20.rd 3 rfl, q20.rd 6 rfl, q20.rd 9 rfl, q20.rd 12 rfl, q20.rd 15 rfl, q20.rd 16 rfl]
              refine two_intro (fun u10 => ?_) (fun u10 => ?_)
              ·
                try simp -implicitDefEqProofs only [kz, kk0, kk1, kk2, kk3, ↓two_true, ↓two_false, mkv, aggAt, Nat.reduceLeDiff, Nat.reduceSub, Nat.reduceMul, implies_true, Nat.reduceEqDiff, reduceIte, Nat.reduceAdd, Nat.reduceBEq, reduceCtorEq, al26, fa26_0, fa26_1, ld24, ld26, ln24, st26, big_eq, bne_self_eq_false, beq_self_eq_true, Bool.not_true, Bool.and_self, cast0, q20.rd 0 rfl, q20.rd 3 rfl, q20.rd 6 rfl, q20.rd 9 rfl, q20.rd 12 rfl, q20.rd 15 rfl, q20.rd 16 rfl]
                -- end9
                all_goals first | rfl | (rw [hRn]; rfl) | (simp; done) | (simp [*]; done) | (rcases n4 with h | h | h <;> simp_all; done) | (exfalso; simp_all; done)
              ·
                try simp -implicitDefEqProofs only [kz, kk0, kk1, kk2, kk3, ↓two_true, ↓two_false, mkv, aggAt, Nat.reduceLeDiff, Nat.reduceSub, Nat.reduceMul, implies_true, Nat.reduceEqDiff, reduceIte, Nat.reduceAdd, Nat.reduceBEq, reduceCtorEq, al26, fa26_0, fa26_1, ld24, ld26, ln24, st26, big_eq, bne_self_eq_false, beq_self_eq_true, Bool.not_true, Bool.and_self, cast0, q20.rd 0 rfl, q20.rd 3 rfl, q20.rd 6 rfl, q20.rd 9 rfl, q20.rd 12 rfl, q20.rd 15 rfl, q20.rd 16 rfl]
                -- end10
                all_goals first | rfl | (rw [hRn]; rfl) | (simp; done) | (simp [*]; done) | (rcases n4 with h | h | h <;> simp_all; done) | (exfalso; simp_all; done)
          ·
            have z2 : R2.2 = 0 := by simpa using u8
            try simp -implicitDefEqProofs only [kz, kk0, kk1, kk2, kk3, ↓two_true, ↓two_false, mkv, aggAt, Nat.reduceLeDiff, Nat.reduceSub, Nat.reduceMul, implies_true, Nat.reduceEqDiff, reduceIte, Nat.reduceAdd, Nat.reduceBEq, reduceCtorEq, al26, fa26_0, fa26_1, ld24, ld26, ln24, st26, big_eq, bne_self_eq_false, beq_self_eq_true, Bool.not_true, Bool.and_self, cast0, q20.rd 0 rfl, q20.rd 3 rfl, q20.rd 6 rfl, q20.rd 9 rfl, q20.rd 12 rfl, q20.rd 15 rfl, q20.rd 16 rfl]
            refine two_intro (fun u11 => ?_) (fun u11 => ?_)
            ·
              have n3 : R3.2 = 6 := by have h5 : ¬ R3.2 = 0 := (by simpa using u11); omega
              try simp -implicitDefEqProofs only [kz, kk0, kk1, kk2, kk3, ↓two_true, ↓two_false, mkv, aggAt, Nat.reduceLeDiff, Nat.reduceSub, Nat.reduceMul, implies_true, Nat.reduceEqDiff, reduceIte, Nat.reduceAdd, Nat.reduceBEq, reduceCtorEq, al26, fa26_0, fa26_1, ld24, ld26, ln24, st26, big_eq, bne_self_eq_false, beq_self_eq_true, Bool.not_true, Bool.and_self, cast0, q20.rd 0 rfl, q20.rd 3 rfl, q20.rd 6 rfl, q20.rd 9 rfl, q20.rd 12 rfl, q20.rd 15 rfl, q20.rd 16 rfl]
              refine two_intro (fun u12 => ?_) (fun u12 => ?_)
              ·
                try simp -implicitDefEqProofs only [kz, kk0, kk1, kk2, kk3, ↓two_true, ↓two_false, mkv, aggAt, Nat.reduceLeDiff, Nat.reduceSub, Nat.reduceMul, implies_true, Nat.reduceEqDiff, reduceIte, Nat.reduceAdd, Nat.reduceBEq, reduceCtorEq, al26, fa26_0, fa26_1, ld24, ld26, ln24, st26, big_eq, bne_self_eq_false, beq_self_eq_true, Bool.not_true, Bool.and_self, cast0, q20.rd 0 rfl, q20.rd 3 rfl, q20.rd 6 rfl, q20.rd 9 rfl, q20.rd 12 rfl, q20.rd 15 rfl, q20.rd 16 rfl]
                -- end11
                all_goals first | rfl | (rw [hRn]; rfl) | (simp; done) | (simp [*]; done) | (rcases n4 with h | h | h <;> simp_all; done) | (exfalso; simp_all; done)
              ·
                try simp -implicitDefEqProofs only [kz, kk0, kk1, kk2, kk3, ↓two_true, ↓two_false, mkv, aggAt, Nat.reduceLeDiff, Nat.reduceSub, Nat.reduceMul, implies_true, Nat.reduceEqDiff, reduceIte, Nat.reduceAdd, Nat.reduceBEq, reduceCtorEq, al26, fa26_0, fa26_1, ld24, ld26, ln24, st26, big_eq, bne_self_eq_false, beq_self_eq_true, Bool.not_true, Bool.and_self, cast0, q20.rd 0 rfl, q20.rd 3 rfl, q20.rd 6 rfl, q20.rd 9 rfl, q20.rd 12 rfl, q20.rd 15 rfl, q20.rd 16 rfl]
                refine two_intro (fun u13 => ?_) (fun u13 => ?_)
                ·
                  try simp -implicitDefEqProofs only [kz, kk0, kk1, kk2, kk3, ↓two_true, ↓two_false, mkv, aggAt, Nat.reduceLeDiff, Nat.reduceSub, Nat.reduceMul, implies_true, Nat.reduceEqDiff, reduceIte, Nat.reduceAdd, Nat.reduceBEq, reduceCtorEq, al26, fa26_0, fa26_1, ld24, ld26, ln24, st26, big_eq, bne_self_eq_false, beq_self_eq_true, Bool.not_true, Bool.and_self, cast0, q20.rd 0 rfl, q20.rd 3 rfl, q20.rd 6 rfl, q20.rd 9 rfl, q20.rd 12 rfl, q20.rd 15 rfl, q20.rd 16 rfl]
                  -- end12
                  all_goals first | rfl | (rw [hRn]; rfl) | (simp; done) | (simp [*]; done) | (rcases n4 with h | h | h <;> simp_all; done) | (exfalso; simp_all; done)
                ·
                  try simp -implicitDefEqProofs only [kz, kk0, kk1, kk2, kk3, ↓two_true, ↓two_false, mkv, aggAt, Nat.reduceLeDiff, Nat.reduceSub, Nat.reduceMul, implies_true, Nat.reduceEqDiff, reduceIte, Nat.reduceAdd, Nat.reduceBEq, reduceCtorEq, al26, fa26_0, fa26_1, ld24, ld26, ln24, st26, big_eq, bne_self_eq_false, beq_self_eq_true, Bool.not_true, Bool.and_self, cast0, q20.rd 0 rfl, q20.rd 3 rfl, q20.rd 6 rfl, q20.rd 9 rfl, q20.rd 12 rfl, q20.rd 15 rfl, q20.rd 16 rfl]
                  -- end13
                  all_goals first | rfl | (rw [hRn]; rfl) | (simp; done) | (simp [*]; done) | (rcases n4 with h | h | h <;> simp_all; done) | (exfalso; simp_all; done)
            ·
              have z3 : R3.2 = 0 := by simpa using u11
              try simp -implicitDefEqProofs only [kz, kk0, kk1, kk2, kk3, ↓two_true, ↓two_false, mkv, aggAt, Nat.reduceLeDiff, Nat.reduceSub, Nat.reduceMul, implies_true, Nat.reduceEqDiff, reduceIte, Nat.reduceAdd, Nat.reduceBEq, reduceCtorEq, al26, fa26_0, fa26_1, ld24, ld26, ln24, st26, big_eq, bne_self_eq_false, beq_self_eq_true, Bool.not_true, Bool.and_self, cast0, q20.rd 0 rfl, q20.rd 3 rfl, q20.rd 6 rfl, q20.rd 9 rfl, q20.rd 12 rfl, q20.rd 15 rfl, q20.rd 16 rfl]
              refine two_intro (fun u14 => ?_) (fun u14 => ?_)
              ·
                have n4 : R2.2 = 6 ∨ R3.2 = 6 ∨ R4.2 = 6 := by first | exact .inl n2 | exact .inr (.inl n3) | exact .inr (.inr (by have h5 : ¬ R4.2 = 0 := (by simpa using u14); omega))
                try simp -implicitDefEqProofs only [kz, kk0, kk1, kk2, kk3, ↓two_true, ↓two_false, mkv, aggAt, Nat.reduceLeDiff, Nat.reduceSub, Nat.reduceMul, implies_true, Nat.reduceEqDiff, reduceIte, Nat.reduceAdd, Nat.reduceBEq, reduceCtorEq, al26, fa26_0, fa26_1, ld24, ld26, ln24, st26, big_eq, bne_self_eq_false, beq_self_eq_true, Bool.not_true, Bool.and_self, cast0, q20.rd 0 rfl, q20.rd 3 rfl, q20.rd 6 rfl, q20.rd 9 rfl, q20.rd 12 rfl, q20.rd 15 rfl, q20.rd 16 rfl]
                refine two_intro (fun u15 => ?_) (fun u15 => ?_)
                ·
                  try simp -implicitDefEqProofs only [kz, kk0, kk1, kk2, kk3, ↓two_true, ↓two_false, mkv, aggAt, Nat.reduceLeDiff, Nat.reduceSub, Nat.reduceMul, implies_true, Nat.reduceEqDiff, reduceIte, Nat.reduceAdd, Nat.reduceBEq, reduceCtorEq, al26, fa26_0, fa26_1, ld24, ld26, ln24, st26, big_eq, bne_self_eq_false, beq_self_eq_true, Bool.not_true, Bool.and_self, cast0, q20.rd 0 rfl, q20.rd 3 rfl, q20.rd 6 rfl, q20.rd 9 rfl, q20.rd 12 rfl, q20.rd 15 rfl, q20.rd 16 rfl]
                  -- end14
                  all_goals first | rfl | (rw [hRn]; rfl) | (simp; done) | (simp [*]; done) | (rcases n4 with h | h | h <;> simp_all; done) | (exfalso; simp_all; done)
                ·
                  try simp -implicitDefEqProofs only [kz, kk0, kk1, kk2, kk3, ↓two_true, ↓two_false, mkv, aggAt, Nat.reduceLeDiff, Nat.reduceSub, Nat.reduceMul, implies_true, Nat.reduceEqDiff, reduceIte, Nat.reduceAdd, Nat.reduceBEq, reduceCtorEq, al26, fa26_0, fa26_1, ld24, ld26, ln24, st26, big_eq, bne_self_eq_false, beq_self_eq_true, Bool.not_true, Bool.and_self, cast0, q20.rd 0 rfl, q20.rd 3 rfl, q20.rd 6 rfl, q20.rd 9 rfl, q20.rd 12 rfl, q20.rd 15 rfl, q20.rd 16 rfl]
                  refine two_intro (fun u16 => ?_) (fun u16 => ?_)
                  ·
                    try simp -implicitDefEqProofs only [kz, kk0, kk1, kk2, kk3, ↓two_true, ↓two_false, mkv, aggAt, Nat.reduceLeDiff, Nat.reduceSub, Nat.reduceMul, implies_true, Nat.reduceEqDiff, reduceIte, Nat.reduceAdd, Nat.reduceBEq, reduceCtorEq, al26, fa26_0, fa26_1, ld24, ld26, ln24, st26, big_eq, bne_self_eq_false, beq_self_eq_true, Bool.not_true, Bool.and_self, cast0, q20.rd 0 rfl, q20.rd 3 rfl, q20.rd 6 rfl, q20.rd 9 rfl, q20.rd 12 rfl, q20.rd 15 rfl, q20.rd 16 rfl]
                    -- end15
                    all_goals first | rfl | (rw [hRn]; rfl) | (simp; done) | (simp [*]; done) | (rcases n4 with h | h | h <;> simp_all; done) | (exfalso; simp_all; done)
                  ·
                    try simp -implicitDefEqProofs only [kz, kk0, kk1, kk2, kk3, ↓two_true, ↓two_false, mkv, aggAt, Nat.reduceLeDiff, Nat.reduceSub, Nat.reduceMul, implies_true, Nat.reduceEqDiff, reduceIte, Nat.reduceAdd, Nat.reduceBEq, reduceCtorEq, al26, fa26_0, fa26_1, ld24, ld26, ln24, st26, big_eq, bne_self_eq_false, beq_self_eq_true, Bool.not_true, Bool.and_self, cast0, q20.rd 0 rfl, q20.rd 3 rfl, q20.rd 6 rfl, q20.rd 9 rfl, q20.rd 12 rfl, q20.rd 15 rfl, q20.rd 16 rfl]
                    -- end16
                    all_goals first | rfl | (rw [hRn]; rfl) | (simp; done) | (simp [*]; done) | (rcases n4 with h | h | h <;> simp_all; done) | (exfalso; simp_all; done)
              ·
                have z4 : R4.2 = 0 := by simpa using u14
                have heach := sums_eq hR2 hR3 hR4 na nb z2 z3 z4
                try simp -implicitDefEqProofs only [kz, kk0, kk1, kk2, kk3, ↓two_true, ↓two_false, mkv, aggAt, Nat.reduceLeDiff, Nat.reduceSub, Nat.reduceMul, implies_true, Nat.reduceEqDiff, reduceIte, Nat.reduceAdd, Nat.reduceBEq, reduceCtorEq, al26, fa26_0, fa26_1, ld24, ld26, ln24, st26, big_eq, bne_self_eq_false, beq_self_eq_true, Bool.not_true, Bool.and_self, cast0, z4, q20.rd 0 rfl, q20.rd 3 rfl, q20.rd 6 rfl, q20.rd 9 rfl, q20.rd 12 rfl, q20.rd 15 rfl, q20.rd 16 rfl]
                refine (implEachTwo_ok (s := 43) (q20.ar 7 8 rfl rfl (by (try simp only [List.length_cons, List.length_nil, List.length_append, List.length_replicate, List.length_map, List.length_take, List.length_drop]); omega) (by (try simp only [List.length_cons, List.length_nil, List.length_append, List.length_replicate, List.length_map, List.length_take, List.length_drop]); omega)) (q20.ar 4 5 rfl rfl (by (try simp only [List.length_cons, List.length_nil, List.length_append, List.length_replicate, List.length_map, List.length_take, List.length_drop]); omega) (by (try simp only [List.length_cons, List.length_nil, List.length_append, List.length_replicate, List.length_map, List.length_take, List.length_drop]); omega)) ).mono ?_
                rintro _ H21 ⟨p15, p16, rfl, g7⟩
                rw [heach] at g7 ⊢
                have q21 := q20.join g7
                simp only [List.map_cons, List.map_nil, List.cons_append, List.nil_append] at q21
                obtain ⟨a15, c15, rfl⟩ := (q21.own 0 rfl).isSlice
                obtain ⟨a16, c16, rfl⟩ := (q21.own 1 rfl).isSlice
                simp -implicitDefEqProofs only [kz, kk0, kk1, kk2, kk3, ↓two_true, ↓two_false, mkv, aggAt, Nat.reduceLeDiff, Nat.reduceSub, Nat.reduceMul, implies_true, Nat.reduceEqDiff, reduceIte, Nat.reduceAdd, Nat.reduceBEq, reduceCtorEq, al26, fa26_0, fa26_1, ld24, ld26, ln24, st26, big_eq, bne_self_eq_false, beq_self_eq_true, Bool.not_true, Bool.and_self, cast0, z4, q21.rd 2 rfl, q21.rd 5 rfl, q21.rd 8 rfl, q21.rd 11 rfl, q21.rd 14 rfl, q21.rd 17 rfl, q21.rd 18 rfl]
                refine st_box q21 fun H22 q22 => ?_
                simp -implicitDefEqProofs only [kz, kk0, kk1, kk2, kk3, ↓two_true, ↓two_false, mkv, aggAt, Nat.reduceLeDiff, Nat.reduceSub, Nat.reduceMul, implies_true, Nat.reduceEqDiff, reduceIte, Nat.reduceAdd, Nat.reduceBEq, reduceCtorEq, al26, fa26_0, fa26_1, ld24, ld26, ln24, st26, big_eq, bne_self_eq_false, beq_self_eq_true, Bool.not_true, Bool.and_self, cast0, z4, q22.rd 0 rfl, q22.rd 3 rfl, q22.rd 6 rfl, q22.rd 9 rfl, q22.rd 12 rfl, q22.rd 15 rfl, q22.rd 18 rfl, q22.rd 19 rfl]
                refine st_set q22 0 rfl fun H23 q23 => ?_
                simp only [List.set_cons_zero, List.set_cons_succ] at q23
                simp -implicitDefEqProofs only [kz, kk0, kk1, kk2, kk3, ↓two_true, ↓two_false, mkv, aggAt, Nat.reduceLeDiff, Nat.reduceSub, Nat.reduceMul, implies_true, Nat.reduceEqDiff, reduceIte, Nat.reduceAdd, Nat.reduceBEq, reduceCtorEq, al26, fa26_0, fa26_1, ld24, ld26, ln24, st26, big_eq, bne_self_eq_false, beq_self_eq_true, Bool.not_true, Bool.and_self, cast0, z4, q23.rd 0 rfl, q23.rd 3 rfl, q23.rd 6 rfl, q23.rd 9 rfl, q23.rd 12 rfl, q23.rd 15 rfl, q23.rd 18 rfl, q23.rd 19 rfl]
                refine (sameArray_ok (q23.ar 1 2 rfl rfl (by (try simp only [List.length_cons, List.length_nil, List.length_append, List.length_replicate, List.length_map, List.length_take, List.length_drop]); omega) (by (try simp only [List.length_cons, List.length_nil, List.length_append, List.length_replicate, List.length_map, List.length_take, List.length_drop]); omega)) (q23.ar 4 5 rfl rfl (by (try simp only [List.length_cons, List.length_nil, List.length_append, List.length_replicate, List.length_map, List.length_take, List.length_drop]); omega) (by (try simp only [List.length_cons, List.length_nil, List.length_append, List.length_replicate, List.length_map, List.length_take, List.length_drop]); omega))).mono ?_
                rintro _ H24 ⟨rfl, he1⟩
                have q24 := q23.extd he1
                simp -implicitDefEqProofs only [kz, kk0, kk1, kk2, kk3, ↓two_true, ↓two_false, mkv, aggAt, Nat.reduceLeDiff, Nat.reduceSub, Nat.reduceMul, implies_true, Nat.reduceEqDiff, reduceIte, Nat.reduceAdd, Nat.reduceBEq, reduceCtorEq, al26, fa26_0, fa26_1, ld24, ld26, ln24, st26, big_eq, bne_self_eq_false, beq_self_eq_true, Bool.not_true, Bool.and_self, cast0, z4, q24.rd 0 rfl, q24.rd 3 rfl, q24.rd 6 rfl, q24.rd 9 rfl, q24.rd 12 rfl, q24.rd 15 rfl, q24.rd 18 rfl, q24.rd 19 rfl]
                -- end17
                all_goals first | rfl | (rw [hRn]; rfl) | (simp; done) | (simp [*]; done) | (rcases n4 with h | h | h <;> simp_all; done) | (exfalso; simp_all; done)

end Go.Proofs.Ytockhdhilemfkaa.AM
