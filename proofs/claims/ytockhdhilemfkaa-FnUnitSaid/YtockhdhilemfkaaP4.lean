/- What the functions answer, part 4. -/
import Derived.Test.YtockhdhilemfkaaP3
set_option linter.unusedVariables false
set_option linter.unusedSimpArgs false
set_option linter.defProp false
set_option maxRecDepth 100000
/- What the functions answer, part 4. -/
namespace Go.Proofs.Ytockhdhilemfkaa.AM
open Go Go.Proofs.Ytockhdhilemfkaa Go.Proofs
theorem DrawInner_ok {H : AH} {v : Value} (hv : BRv H v) : CallsA Try.prog 64 #[v] H fun r H' => ∃ (f : Int) (g : Int) (psa qsa : Value) (sa da : List Int) (psb qsb : Value) (sb db : List Int), r = .tuple #[.int .i64 f, .int .i64 g, .agg #[psa, qsa], .agg #[psb, qsb]] ∧ LD none H H' [.row psa sa, .row qsa da, .row psb sb, .row qsb db] ∧ sa.length ≤ 1048576 ∧ da.length ≤ 1048576 ∧ sb.length ≤ 1048576 ∧ db.length ≤ 1048576 := by
  obtain ⟨a0, n0, c0, rfl, hn0, hb⟩ := hv
  have hv : BRv H (.slice a0 n0 c0) := ⟨a0, n0, c0, rfl, hn0, hb⟩
  have q := (LX.nil (H := H))
  refine w64 ?_
  unfold k64
  simp -implicitDefEqProofs only [kz, kk0, kk1, kk2, kk3, ↓two_true, ↓two_false, mkv, aggAt, Nat.reduceLeDiff, Nat.reduceSub, Nat.reduceMul, implies_true, Nat.reduceEqDiff, reduceIte, Nat.reduceAdd, Nat.reduceBEq, reduceCtorEq, al26, bs24_1, bs24_2, ld26, st26]
  refine st_box q fun H1 q1 => ?_
  simp -implicitDefEqProofs only [kz, kk0, kk1, kk2, kk3, ↓two_true, ↓two_false, mkv, aggAt, Nat.reduceLeDiff, Nat.reduceSub, Nat.reduceMul, implies_true, Nat.reduceEqDiff, reduceIte, Nat.reduceAdd, Nat.reduceBEq, reduceCtorEq, al26, bs24_1, bs24_2, ld26, st26, q1.rd 0 rfl]
  refine st_box q1 fun H2 q2 => ?_
  simp -implicitDefEqProofs only [kz, kk0, kk1, kk2, kk3, ↓two_true, ↓two_false, mkv, aggAt, Nat.reduceLeDiff, Nat.reduceSub, Nat.reduceMul, implies_true, Nat.reduceEqDiff, reduceIte, Nat.reduceAdd, Nat.reduceBEq, reduceCtorEq, al26, bs24_1, bs24_2, ld26, st26, q2.rd 0 rfl, q2.rd 1 rfl]
  refine (l1New_ok (BRv.ext hv q2.ext)).mono ?_
  rintro _ H3 ⟨cb, rfl, hc1, hcb1, he1⟩
  have q3 := q2.cursor he1 hc1 hcb1
  have hcb0 := Nat.le_trans q2.len hcb1
  simp -implicitDefEqProofs only [kz, kk0, kk1, kk2, kk3, ↓two_true, ↓two_false, mkv, aggAt, Nat.reduceLeDiff, Nat.reduceSub, Nat.reduceMul, implies_true, Nat.reduceEqDiff, reduceIte, Nat.reduceAdd, Nat.reduceBEq, reduceCtorEq, al26, bs24_1, bs24_2, ld26, st26, q3.rd 0 rfl, q3.rd 1 rfl]
  refine (l1DrawSign_ok q3.cur).mono ?_
  rintro _ H4 ⟨⟨s1, rfl⟩, hf1⟩
  have q4 := q3.call hf1
  simp -implicitDefEqProofs only [kz, kk0, kk1, kk2, kk3, ↓two_true, ↓two_false, mkv, aggAt, Nat.reduceLeDiff, Nat.reduceSub, Nat.reduceMul, implies_true, Nat.reduceEqDiff, reduceIte, Nat.reduceAdd, Nat.reduceBEq, reduceCtorEq, al26, bs24_1, bs24_2, ld26, st26, q4.rd 0 rfl, q4.rd 1 rfl]
  refine (l1DrawSign_ok q4.cur).mono ?_
  rintro _ H5 ⟨⟨s2, rfl⟩, hf2⟩
  have q5 := q4.call hf2
  simp -implicitDefEqProofs only [kz, kk0, kk1, kk2, kk3, ↓two_true, ↓two_false, mkv, aggAt, Nat.reduceLeDiff, Nat.reduceSub, Nat.reduceMul, implies_true, Nat.reduceEqDiff, reduceIte, Nat.reduceAdd, Nat.reduceBEq, reduceCtorEq, al26, bs24_1, bs24_2, ld26, st26, q5.rd 0 rfl, q5.rd 1 rfl]
  refine (l1Below_ok q5.cur).mono ?_
  rintro _ H6 ⟨⟨x1, rfl, -, hx1⟩, hf3⟩
  have q6 := q5.call hf3
  simp -implicitDefEqProofs only [kz, kk0, kk1, kk2, kk3, ↓two_true, ↓two_false, mkv, aggAt, Nat.reduceLeDiff, Nat.reduceSub, Nat.reduceMul, implies_true, Nat.reduceEqDiff, reduceIte, Nat.reduceAdd, Nat.reduceBEq, reduceCtorEq, al26, bs24_1, bs24_2, ld26, st26, q6.rd 0 rfl, q6.rd 1 rfl]
  refine st_lit [x1] rfl rfl q6 fun H7 q7 => ?_
  simp -implicitDefEqProofs only [kz, kk0, kk1, kk2, kk3, ↓two_true, ↓two_false, mkv, aggAt, Nat.reduceLeDiff, Nat.reduceSub, Nat.reduceMul, implies_true, Nat.reduceEqDiff, reduceIte, Nat.reduceAdd, Nat.reduceBEq, reduceCtorEq, al26, bs24_1, bs24_2, ld26, st26, q7.rd 1 rfl, q7.rd 2 rfl]
  refine (l3Fill_ok q7.cur (q7.own 0 rfl) (q7.nc 0 rfl) (by first | omega | (simp; omega) | simp)).mono ?_
  rintro _ H8 ⟨⟨p1, p2, xd1, rfl, d1, n1, -⟩, hf4⟩
  have hl_xd1 : xd1.length ≤ 300 := by have := sizeI_le (l := [x1]); omega
  have q8 := q7.da d1 hf4
  obtain ⟨a1, c1, rfl⟩ := (q8.own 0 rfl).isSlice
  obtain ⟨a2, c2, rfl⟩ := (q8.own 1 rfl).isSlice
  simp -implicitDefEqProofs only [kz, kk0, kk1, kk2, kk3, ↓two_true, ↓two_false, mkv, aggAt, Nat.reduceLeDiff, Nat.reduceSub, Nat.reduceMul, implies_true, Nat.reduceEqDiff, reduceIte, Nat.reduceAdd, Nat.reduceBEq, reduceCtorEq, al26, bs24_1, bs24_2, ld26, st26, q8.rd 3 rfl, q8.rd 4 rfl]
  refine st_box q8 fun H9 q9 => ?_
  simp -implicitDefEqProofs only [kz, kk0, kk1, kk2, kk3, ↓two_true, ↓two_false, mkv, aggAt, Nat.reduceLeDiff, Nat.reduceSub, Nat.reduceMul, implies_true, Nat.reduceEqDiff, reduceIte, Nat.reduceAdd, Nat.reduceBEq, reduceCtorEq, al26, bs24_1, bs24_2, ld26, st26, q9.rd 0 rfl, q9.rd 4 rfl, q9.rd 5 rfl]
  refine st_set q9 0 rfl fun H10 q10 => ?_
  simp only [List.set_cons_zero, List.set_cons_succ] at q10
  simp -implicitDefEqProofs only [kz, kk0, kk1, kk2, kk3, ↓two_true, ↓two_false, mkv, aggAt, Nat.reduceLeDiff, Nat.reduceSub, Nat.reduceMul, implies_true, Nat.reduceEqDiff, reduceIte, Nat.reduceAdd, Nat.reduceBEq, reduceCtorEq, al26, bs24_1, bs24_2, ld26, st26, q10.rd 0 rfl, q10.rd 4 rfl, q10.rd 5 rfl]
  refine (l1Once_ok q10.cur).mono ?_
  rintro _ H11 ⟨⟨bb1, rfl⟩, hf5⟩
  have q11 := q10.call hf5
  simp -implicitDefEqProofs only [kz, kk0, kk1, kk2, kk3, ↓two_true, ↓two_false, mkv, aggAt, Nat.reduceLeDiff, Nat.reduceSub, Nat.reduceMul, implies_true, Nat.reduceEqDiff, reduceIte, Nat.reduceAdd, Nat.reduceBEq, reduceCtorEq, al26, bs24_1, bs24_2, ld26, st26, q11.rd 0 rfl, q11.rd 4 rfl, q11.rd 5 rfl]
  refine two_intro (fun u1 => ?_) (fun u1 => ?_)
  ·
    try simp -implicitDefEqProofs only [kz, kk0, kk1, kk2, kk3, ↓two_true, ↓two_false, mkv, aggAt, Nat.reduceLeDiff, Nat.reduceSub, Nat.reduceMul, implies_true, Nat.reduceEqDiff, reduceIte, Nat.reduceAdd, Nat.reduceBEq, reduceCtorEq, al26, bs24_1, bs24_2, ld26, st26, q11.rd 0 rfl, q11.rd 4 rfl, q11.rd 5 rfl]
    refine (l1Below_ok q11.cur).mono ?_
    rintro _ H12 ⟨⟨x2, rfl, -, hx2⟩, hf6⟩
    have q12 := q11.call hf6
    simp -implicitDefEqProofs only [kz, kk0, kk1, kk2, kk3, ↓two_true, ↓two_false, mkv, aggAt, Nat.reduceLeDiff, Nat.reduceSub, Nat.reduceMul, implies_true, Nat.reduceEqDiff, reduceIte, Nat.reduceAdd, Nat.reduceBEq, reduceCtorEq, al26, bs24_1, bs24_2, ld26, st26, q12.rd 0 rfl, q12.rd 4 rfl, q12.rd 5 rfl]
    refine st_lit [x2, x1] rfl rfl q12 fun H13 q13 => ?_
    simp -implicitDefEqProofs only [kz, kk0, kk1, kk2, kk3, ↓two_true, ↓two_false, mkv, aggAt, Nat.reduceLeDiff, Nat.reduceSub, Nat.reduceMul, implies_true, Nat.reduceEqDiff, reduceIte, Nat.reduceAdd, Nat.reduceBEq, reduceCtorEq, al26, bs24_1, bs24_2, ld26, st26, q13.rd 1 rfl, q13.rd 5 rfl, q13.rd 6 rfl]
    refine (l3Fill_ok q13.cur (q13.own 0 rfl) (q13.nc 0 rfl) (by first | omega | (simp; omega) | simp)).mono ?_
    rintro _ H14 ⟨⟨p3, p4, xd2, rfl, d2, n2, -⟩, hf7⟩
    have hl_xd2 : xd2.length ≤ 300 := by have := sizeI_le (l := [x2, x1]); omega
    have q14 := q13.da d2 hf7
    obtain ⟨a3, c3, rfl⟩ := (q14.own 0 rfl).isSlice
    obtain ⟨a4, c4, rfl⟩ := (q14.own 1 rfl).isSlice
    simp -implicitDefEqProofs only [kz, kk0, kk1, kk2, kk3, ↓two_true, ↓two_false, mkv, aggAt, Nat.reduceLeDiff, Nat.reduceSub, Nat.reduceMul, implies_true, Nat.reduceEqDiff, reduceIte, Nat.reduceAdd, Nat.reduceBEq, reduceCtorEq, al26, bs24_1, bs24_2, ld26, st26, q14.rd 3 rfl, q14.rd 7 rfl, q14.rd 8 rfl]
    refine st_set q14 3 rfl fun H15 q15 => ?_
    simp only [List.set_cons_zero, List.set_cons_succ] at q15
    simp -implicitDefEqProofs only [kz, kk0, kk1, kk2, kk3, ↓two_true, ↓two_false, mkv, aggAt, Nat.reduceLeDiff, Nat.reduceSub, Nat.reduceMul, implies_true, Nat.reduceEqDiff, reduceIte, Nat.reduceAdd, Nat.reduceBEq, reduceCtorEq, al26, bs24_1, bs24_2, ld26, st26, q15.rd 3 rfl, q15.rd 7 rfl, q15.rd 8 rfl]
    refine st_lit [x1] rfl rfl q15 fun H16 q16 => ?_
    simp -implicitDefEqProofs only [kz, kk0, kk1, kk2, kk3, ↓two_true, ↓two_false, mkv, aggAt, Nat.reduceLeDiff, Nat.reduceSub, Nat.reduceMul, implies_true, Nat.reduceEqDiff, reduceIte, Nat.reduceAdd, Nat.reduceBEq, reduceCtorEq, al26, bs24_1, bs24_2, ld26, st26, q16.rd 4 rfl, q16.rd 8 rfl, q16.rd 9 rfl]
    refine (l3Fill_ok q16.cur (q16.own 0 rfl) (q16.nc 0 rfl) (by first | omega | (simp; omega) | simp)).mono ?_
    rintro _ H17 ⟨⟨p5, p6, xd3, rfl, d3, n3, -⟩, hf8⟩
    have hl_xd3 : xd3.length ≤ 300 := by have := sizeI_le (l := [x1]); omega
    have q17 := q16.da d3 hf8
    obtain ⟨a5, c5, rfl⟩ := (q17.own 0 rfl).isSlice
    obtain ⟨a6, c6, rfl⟩ := (q17.own 1 rfl).isSlice
    simp -implicitDefEqProofs only [kz, kk0, kk1, kk2, kk3, ↓two_true, ↓two_false, mkv, aggAt, Nat.reduceLeDiff, Nat.reduceSub, Nat.reduceMul, implies_true, Nat.reduceEqDiff, reduceIte, Nat.reduceAdd, Nat.reduceBEq, reduceCtorEq, al26, bs24_1, bs24_2, ld26, st26, q17.rd 6 rfl, q17.rd 10 rfl, q17.rd 11 rfl]
    refine st_box q17 fun H18 q18 => ?_
    simp -implicitDefEqProofs only [kz, kk0, kk1, kk2, kk3, ↓two_true, ↓two_false, mkv, aggAt, Nat.reduceLeDiff, Nat.reduceSub, Nat.reduceMul, implies_true, Nat.reduceEqDiff, reduceIte, Nat.reduceAdd, Nat.reduceBEq, reduceCtorEq, al26, bs24_1, bs24_2, ld26, st26, q18.rd 0 rfl, q18.rd 7 rfl, q18.rd 11 rfl, q18.rd 12 rfl]
    refine st_set q18 0 rfl fun H19 q19 => ?_
    simp only [List.set_cons_zero, List.set_cons_succ] at q19
    simp -implicitDefEqProofs only [kz, kk0, kk1, kk2, kk3, ↓two_true, ↓two_false, mkv, aggAt, Nat.reduceLeDiff, Nat.reduceSub, Nat.reduceMul, implies_true, Nat.reduceEqDiff, reduceIte, Nat.reduceAdd, Nat.reduceBEq, reduceCtorEq, al26, bs24_1, bs24_2, ld26, st26, q19.rd 0 rfl, q19.rd 7 rfl, q19.rd 11 rfl, q19.rd 12 rfl]
    refine (l1Once_ok q19.cur).mono ?_
    rintro _ H20 ⟨⟨bb2, rfl⟩, hf9⟩
    have q20 := q19.call hf9
    simp -implicitDefEqProofs only [kz, kk0, kk1, kk2, kk3, ↓two_true, ↓two_false, mkv, aggAt, Nat.reduceLeDiff, Nat.reduceSub, Nat.reduceMul, implies_true, Nat.reduceEqDiff, reduceIte, Nat.reduceAdd, Nat.reduceBEq, reduceCtorEq, al26, bs24_1, bs24_2, ld26, st26, q20.rd 0 rfl, q20.rd 7 rfl, q20.rd 11 rfl, q20.rd 12 rfl]
    refine two_intro (fun u2 => ?_) (fun u2 => ?_)
    ·
      try simp -implicitDefEqProofs only [kz, kk0, kk1, kk2, kk3, ↓two_true, ↓two_false, mkv, aggAt, Nat.reduceLeDiff, Nat.reduceSub, Nat.reduceMul, implies_true, Nat.reduceEqDiff, reduceIte, Nat.reduceAdd, Nat.reduceBEq, reduceCtorEq, al26, bs24_1, bs24_2, ld26, st26, q20.rd 0 rfl, q20.rd 7 rfl, q20.rd 11 rfl, q20.rd 12 rfl]
      refine (l1Below_ok q20.cur).mono ?_
      rintro _ H21 ⟨⟨x3, rfl, -, hx3⟩, hf10⟩
      have q21 := q20.call hf10
      simp -implicitDefEqProofs only [kz, kk0, kk1, kk2, kk3, ↓two_true, ↓two_false, mkv, aggAt, Nat.reduceLeDiff, Nat.reduceSub, Nat.reduceMul, implies_true, Nat.reduceEqDiff, reduceIte, Nat.reduceAdd, Nat.reduceBEq, reduceCtorEq, al26, bs24_1, bs24_2, ld26, st26, q21.rd 0 rfl, q21.rd 7 rfl, q21.rd 11 rfl, q21.rd 12 rfl]
      refine st_lit [x1, x3] rfl rfl q21 fun H22 q22 => ?_
      simp -implicitDefEqProofs only [kz, kk0, kk1, kk2, kk3, ↓two_true, ↓two_false, mkv, aggAt, Nat.reduceLeDiff, Nat.reduceSub, Nat.reduceMul, implies_true, Nat.reduceEqDiff, reduceIte, Nat.reduceAdd, Nat.reduceBEq, reduceCtorEq, al26, bs24_1, bs24_2, ld26, st26, q22.rd 1 rfl, q22.rd 8 rfl, q22.rd 12 rfl, q22.rd 13 rfl]
      refine (l3Fill_ok q22.cur (q22.own 0 rfl) (q22.nc 0 rfl) (by first | omega | (simp; omega) | simp)).mono ?_
      rintro _ H23 ⟨⟨p7, p8, xd4, rfl, d4, n4, -⟩, hf11⟩
      have hl_xd4 : xd4.length ≤ 300 := by have := sizeI_le (l := [x1, x3]); omega
      have q23 := q22.da d4 hf11
      obtain ⟨a7, c7, rfl⟩ := (q23.own 0 rfl).isSlice
      obtain ⟨a8, c8, rfl⟩ := (q23.own 1 rfl).isSlice
      simp -implicitDefEqProofs only [kz, kk0, kk1, kk2, kk3, ↓two_true, ↓two_false, mkv, aggAt, Nat.reduceLeDiff, Nat.reduceSub, Nat.reduceMul, implies_true, Nat.reduceEqDiff, reduceIte, Nat.reduceAdd, Nat.reduceBEq, reduceCtorEq, al26, bs24_1, bs24_2, ld26, st26, q23.rd 3 rfl, q23.rd 10 rfl, q23.rd 14 rfl, q23.rd 15 rfl]
      refine st_set q23 3 rfl fun H24 q24 => ?_
      simp only [List.set_cons_zero, List.set_cons_succ] at q24
      simp -implicitDefEqProofs only [kz, kk0, kk1, kk2, kk3, ↓two_true, ↓two_false, mkv, aggAt, Nat.reduceLeDiff, Nat.reduceSub, Nat.reduceMul, implies_true, Nat.reduceEqDiff, reduceIte, Nat.reduceAdd, Nat.reduceBEq, reduceCtorEq, al26, bs24_1, bs24_2, ld26, st26, q24.rd 3 rfl, q24.rd 10 rfl, q24.rd 14 rfl, q24.rd 15 rfl]
      refine (l1Below_ok q24.cur).mono ?_
      rintro _ H25 ⟨⟨x4, rfl, -, hx4⟩, hf12⟩
      have q25 := q24.call hf12
      simp -implicitDefEqProofs only [kz, kk0, kk1, kk2, kk3, ↓two_true, ↓two_false, mkv, aggAt, Nat.reduceLeDiff, Nat.reduceSub, Nat.reduceMul, implies_true, Nat.reduceEqDiff, reduceIte, Nat.reduceAdd, Nat.reduceBEq, reduceCtorEq, al26, bs24_1, bs24_2, ld26, st26, q25.rd 3 rfl, q25.rd 10 rfl, q25.rd 14 rfl, q25.rd 15 rfl]
      refine two_intro (fun u3 => ?_) (fun u3 => ?_)
      ·
        try simp -implicitDefEqProofs only [kz, kk0, kk1, kk2, kk3, ↓two_true, ↓two_false, mkv, aggAt, Nat.reduceLeDiff, Nat.reduceSub, Nat.reduceMul, implies_true, Nat.reduceEqDiff, reduceIte, Nat.reduceAdd, Nat.reduceBEq, reduceCtorEq, al26, bs24_1, bs24_2, ld26, st26, q25.rd 3 rfl, q25.rd 10 rfl, q25.rd 14 rfl, q25.rd 15 rfl]
        refine (l3Draw_ok q25.cur).mono ?_
        rintro _ H26 ⟨⟨p9, p10, xs1, xd5, rfl, d5, m1, m2⟩, hf13⟩
        have q26 := q25.da d5 hf13
        obtain ⟨a9, c9, rfl⟩ := (q26.own 0 rfl).isSlice
        obtain ⟨a10, c10, rfl⟩ := (q26.own 1 rfl).isSlice
        simp -implicitDefEqProofs only [kz, kk0, kk1, kk2, kk3, ↓two_true, ↓two_false, mkv, aggAt, Nat.reduceLeDiff, Nat.reduceSub, Nat.reduceMul, implies_true, Nat.reduceEqDiff, reduceIte, Nat.reduceAdd, Nat.reduceBEq, reduceCtorEq, al26, bs24_1, bs24_2, ld26, st26, q26.rd 5 rfl, q26.rd 12 rfl, q26.rd 16 rfl, q26.rd 17 rfl]
        refine st_set q26 12 rfl fun H27 q27 => ?_
        simp only [List.set_cons_zero, List.set_cons_succ] at q27
        simp -implicitDefEqProofs only [kz, kk0, kk1, kk2, kk3, ↓two_true, ↓two_false, mkv, aggAt, Nat.reduceLeDiff, Nat.reduceSub, Nat.reduceMul, implies_true, Nat.reduceEqDiff, reduceIte, Nat.reduceAdd, Nat.reduceBEq, reduceCtorEq, al26, bs24_1, bs24_2, ld26, st26, q27.rd 5 rfl, q27.rd 12 rfl, q27.rd 16 rfl, q27.rd 17 rfl]
        refine st_set q27 17 rfl fun H28 q28 => ?_
        simp only [List.set_cons_zero, List.set_cons_succ] at q28
        simp -implicitDefEqProofs only [kz, kk0, kk1, kk2, kk3, ↓two_true, ↓two_false, mkv, aggAt, Nat.reduceLeDiff, Nat.reduceSub, Nat.reduceMul, implies_true, Nat.reduceEqDiff, reduceIte, Nat.reduceAdd, Nat.reduceBEq, reduceCtorEq, al26, bs24_1, bs24_2, ld26, st26, q28.rd 5 rfl, q28.rd 12 rfl, q28.rd 16 rfl, q28.rd 17 rfl, q27.rd 5 rfl, q27.rd 12 rfl, q27.rd 16 rfl, q27.rd 17 rfl]
        refine st_set q28 16 rfl fun H29 q29 => ?_
        simp only [List.set_cons_zero, List.set_cons_succ] at q29
        simp -implicitDefEqProofs only [kz, kk0, kk1, kk2, kk3, ↓two_true, ↓two_false, mkv, aggAt, Nat.reduceLeDiff, Nat.reduceSub, Nat.reduceMul, implies_true, Nat.reduceEqDiff, reduceIte, Nat.reduceAdd, Nat.reduceBEq, reduceCtorEq, al26, bs24_1, bs24_2, ld26, st26, q29.rd 5 rfl, q29.rd 12 rfl, q29.rd 16 rfl, q29.rd 17 rfl, q27.rd 5 rfl, q27.rd 12 rfl, q27.rd 16 rfl, q27.rd 17 rfl, q28.rd 5 rfl, q28.rd 12 rfl, q28.rd 16 rfl, q28.rd 17 rfl]
        -- end1
        exact ⟨s1, s2, _, _, xs1, xd5, _, _, [x1, x3], xd4, rfl, (q29.out hcb0).give [0, 1, 2, 3] (by decide) _ rfl, (by first | omega | (simp; omega) | simp), (by first | omega | (simp; omega) | simp), (by first | omega | (simp; omega) | simp), (by first | omega | (simp; omega) | simp)⟩
      ·
        try simp -implicitDefEqProofs only [kz, kk0, kk1, kk2, kk3, ↓two_true, ↓two_false, mkv, aggAt, Nat.reduceLeDiff, Nat.reduceSub, Nat.reduceMul, implies_true, Nat.reduceEqDiff, reduceIte, Nat.reduceAdd, Nat.reduceBEq, reduceCtorEq, al26, bs24_1, bs24_2, ld26, st26, q25.rd 3 rfl, q25.rd 10 rfl, q25.rd 14 rfl, q25.rd 15 rfl]
        refine two_intro (fun u4 => ?_) (fun u4 => ?_)
        ·
          try simp -implicitDefEqProofs only [kz, kk0, kk1, kk2, kk3, ↓two_true, ↓two_false, mkv, aggAt, Nat.reduceLeDiff, Nat.reduceSub, Nat.reduceMul, implies_true, Nat.reduceEqDiff, reduceIte, Nat.reduceAdd, Nat.reduceBEq, reduceCtorEq, al26, bs24_1, bs24_2, ld26, st26, q25.rd 3 rfl, q25.rd 10 rfl, q25.rd 14 rfl, q25.rd 15 rfl]
          refine (l3Draw_ok q25.cur).mono ?_
          rintro _ H30 ⟨⟨p11, p12, xs2, xd6, rfl, d6, m3, m4⟩, hf14⟩
          have q30 := q25.da d6 hf14
          obtain ⟨a11, c11, rfl⟩ := (q30.own 0 rfl).isSlice
          obtain ⟨a12, c12, rfl⟩ := (q30.own 1 rfl).isSlice
          simp -implicitDefEqProofs only [kz, kk0, kk1, kk2, kk3, ↓two_true, ↓two_false, mkv, aggAt, Nat.reduceLeDiff, Nat.reduceSub, Nat.reduceMul, implies_true, Nat.reduceEqDiff, reduceIte, Nat.reduceAdd, Nat.reduceBEq, reduceCtorEq, al26, bs24_1, bs24_2, ld26, st26, q30.rd 5 rfl, q30.rd 12 rfl, q30.rd 16 rfl, q30.rd 17 rfl]
          refine st_set q30 5 rfl fun H31 q31 => ?_
          simp only [List.set_cons_zero, List.set_cons_succ] at q31
          simp -implicitDefEqProofs only [kz, kk0, kk1, kk2, kk3, ↓two_true, ↓two_false, mkv, aggAt, Nat.reduceLeDiff, Nat.reduceSub, Nat.reduceMul, implies_true, Nat.reduceEqDiff, reduceIte, Nat.reduceAdd, Nat.reduceBEq, reduceCtorEq, al26, bs24_1, bs24_2, ld26, st26, q31.rd 5 rfl, q31.rd 12 rfl, q31.rd 16 rfl, q31.rd 17 rfl]
          refine st_set q31 17 rfl fun H32 q32 => ?_
          simp only [List.set_cons_zero, List.set_cons_succ] at q32
          simp -implicitDefEqProofs only [kz, kk0, kk1, kk2, kk3, ↓two_true, ↓two_false, mkv, aggAt, Nat.reduceLeDiff, Nat.reduceSub, Nat.reduceMul, implies_true, Nat.reduceEqDiff, reduceIte, Nat.reduceAdd, Nat.reduceBEq, reduceCtorEq, al26, bs24_1, bs24_2, ld26, st26, q32.rd 5 rfl, q32.rd 12 rfl, q32.rd 16 rfl, q32.rd 17 rfl, q31.rd 5 rfl, q31.rd 12 rfl, q31.rd 16 rfl, q31.rd 17 rfl]
          refine st_set q32 16 rfl fun H33 q33 => ?_
          simp only [List.set_cons_zero, List.set_cons_succ] at q33
          simp -implicitDefEqProofs only [kz, kk0, kk1, kk2, kk3, ↓two_true, ↓two_false, mkv, aggAt, Nat.reduceLeDiff, Nat.reduceSub, Nat.reduceMul, implies_true, Nat.reduceEqDiff, reduceIte, Nat.reduceAdd, Nat.reduceBEq, reduceCtorEq, al26, bs24_1, bs24_2, ld26, st26, q33.rd 5 rfl, q33.rd 12 rfl, q33.rd 16 rfl, q33.rd 17 rfl, q31.rd 5 rfl, q31.rd 12 rfl, q31.rd 16 rfl, q31.rd 17 rfl, q32.rd 5 rfl, q32.rd 12 rfl, q32.rd 16 rfl, q32.rd 17 rfl]
          -- end2
          exact ⟨s1, s2, _, _, [x2, x1], xd2, _, _, xs2, xd6, rfl, (q33.out hcb0).give [9, 10, 0, 1] (by decide) _ rfl, (by first | omega | (simp; omega) | simp), (by first | omega | (simp; omega) | simp), (by first | omega | (simp; omega) | simp), (by first | omega | (simp; omega) | simp)⟩
        ·
          try simp -implicitDefEqProofs only [kz, kk0, kk1, kk2, kk3, ↓two_true, ↓two_false, mkv, aggAt, Nat.reduceLeDiff, Nat.reduceSub, Nat.reduceMul, implies_true, Nat.reduceEqDiff, reduceIte, Nat.reduceAdd, Nat.reduceBEq, reduceCtorEq, al26, bs24_1, bs24_2, ld26, st26, q25.rd 3 rfl, q25.rd 10 rfl, q25.rd 14 rfl, q25.rd 15 rfl]
          refine st_set q25 15 rfl fun H34 q34 => ?_
          simp only [List.set_cons_zero, List.set_cons_succ] at q34
          simp -implicitDefEqProofs only [kz, kk0, kk1, kk2, kk3, ↓two_true, ↓two_false, mkv, aggAt, Nat.reduceLeDiff, Nat.reduceSub, Nat.reduceMul, implies_true, Nat.reduceEqDiff, reduceIte, Nat.reduceAdd, Nat.reduceBEq, reduceCtorEq, al26, bs24_1, bs24_2, ld26, st26, q34.rd 3 rfl, q34.rd 10 rfl, q34.rd 14 rfl, q34.rd 15 rfl, q25.rd 3 rfl, q25.rd 10 rfl, q25.rd 14 rfl, q25.rd 15 rfl]
          refine st_set q34 14 rfl fun H35 q35 => ?_
          simp only [List.set_cons_zero, List.set_cons_succ] at q35
          simp -implicitDefEqProofs only [kz, kk0, kk1, kk2, kk3, ↓two_true, ↓two_false, mkv, aggAt, Nat.reduceLeDiff, Nat.reduceSub, Nat.reduceMul, implies_true, Nat.reduceEqDiff, reduceIte, Nat.reduceAdd, Nat.reduceBEq, reduceCtorEq, al26, bs24_1, bs24_2, ld26, st26, q35.rd 3 rfl, q35.rd 10 rfl, q35.rd 14 rfl, q35.rd 15 rfl, q25.rd 3 rfl, q25.rd 10 rfl, q25.rd 14 rfl, q25.rd 15 rfl, q34.rd 3 rfl, q34.rd 10 rfl, q34.rd 14 rfl, q34.rd 15 rfl]
          -- end3
          exact ⟨s1, s2, _, _, [x2, x1], xd2, _, _, [x1, x3], xd4, rfl, (q35.out hcb0).give [7, 8, 0, 1] (by decide) _ rfl, (by first | omega | (simp; omega) | simp), (by first | omega | (simp; omega) | simp), (by first | omega | (simp; omega) | simp), (by first | omega | (simp; omega) | simp)⟩
    ·
      try simp -implicitDefEqProofs only [kz, kk0, kk1, kk2, kk3, ↓two_true, ↓two_false, mkv, aggAt, Nat.reduceLeDiff, Nat.reduceSub, Nat.reduceMul, implies_true, Nat.reduceEqDiff, reduceIte, Nat.reduceAdd, Nat.reduceBEq, reduceCtorEq, al26, bs24_1, bs24_2, ld26, st26, q20.rd 0 rfl, q20.rd 7 rfl, q20.rd 11 rfl, q20.rd 12 rfl]
      refine (l1Below_ok q20.cur).mono ?_
      rintro _ H36 ⟨⟨x5, rfl, -, hx5⟩, hf15⟩
      have q36 := q20.call hf15
      simp -implicitDefEqProofs only [kz, kk0, kk1, kk2, kk3, ↓two_true, ↓two_false, mkv, aggAt, Nat.reduceLeDiff, Nat.reduceSub, Nat.reduceMul, implies_true, Nat.reduceEqDiff, reduceIte, Nat.reduceAdd, Nat.reduceBEq, reduceCtorEq, al26, bs24_1, bs24_2, ld26, st26, q36.rd 0 rfl, q36.rd 7 rfl, q36.rd 11 rfl, q36.rd 12 rfl]
      refine two_intro (fun u5 => ?_) (fun u5 => ?_)
      ·
        try simp -implicitDefEqProofs only [kz, kk0, kk1, kk2, kk3, ↓two_true, ↓two_false, mkv, aggAt, Nat.reduceLeDiff, Nat.reduceSub, Nat.reduceMul, implies_true, Nat.reduceEqDiff, reduceIte, Nat.reduceAdd, Nat.reduceBEq, reduceCtorEq, al26, bs24_1, bs24_2, ld26, st26, q36.rd 0 rfl, q36.rd 7 rfl, q36.rd 11 rfl, q36.rd 12 rfl]
        refine (l3Draw_ok q36.cur).mono ?_
        rintro _ H37 ⟨⟨p13, p14, xs3, xd7, rfl, d7, m5, m6⟩, hf16⟩
        have q37 := q36.da d7 hf16
        obtain ⟨a13, c13, rfl⟩ := (q37.own 0 rfl).isSlice
        obtain ⟨a14, c14, rfl⟩ := (q37.own 1 rfl).isSlice
        simp -implicitDefEqProofs only [kz, kk0, kk1, kk2, kk3, ↓two_true, ↓two_false, mkv, aggAt, Nat.reduceLeDiff, Nat.reduceSub, Nat.reduceMul, implies_true, Nat.reduceEqDiff, reduceIte, Nat.reduceAdd, Nat.reduceBEq, reduceCtorEq, al26, bs24_1, bs24_2, ld26, st26, q37.rd 2 rfl, q37.rd 9 rfl, q37.rd 13 rfl, q37.rd 14 rfl]
        refine st_set q37 9 rfl fun H38 q38 => ?_
        simp only [List.set_cons_zero, List.set_cons_succ] at q38
        simp -implicitDefEqProofs only [kz, kk0, kk1, kk2, kk3, ↓two_true, ↓two_false, mkv, aggAt, Nat.reduceLeDiff, Nat.reduceSub, Nat.reduceMul, implies_true, Nat.reduceEqDiff, reduceIte, Nat.reduceAdd, Nat.reduceBEq, reduceCtorEq, al26, bs24_1, bs24_2, ld26, st26, q38.rd 2 rfl, q38.rd 9 rfl, q38.rd 13 rfl, q38.rd 14 rfl]
        refine st_set q38 14 rfl fun H39 q39 => ?_
        simp only [List.set_cons_zero, List.set_cons_succ] at q39
        simp -implicitDefEqProofs only [kz, kk0, kk1, kk2, kk3, ↓two_true, ↓two_false, mkv, aggAt, Nat.reduceLeDiff, Nat.reduceSub, Nat.reduceMul, implies_true, Nat.reduceEqDiff, reduceIte, Nat.reduceAdd, Nat.reduceBEq, reduceCtorEq, al26, bs24_1, bs24_2, ld26, st26, q39.rd 2 rfl, q39.rd 9 rfl, q39.rd 13 rfl, q39.rd 14 rfl, q38.rd 2 rfl, q38.rd 9 rfl, q38.rd 13 rfl, q38.rd 14 rfl]
        refine st_set q39 13 rfl fun H40 q40 => ?_
        simp only [List.set_cons_zero, List.set_cons_succ] at q40
        simp -implicitDefEqProofs only [kz, kk0, kk1, kk2, kk3, ↓two_true, ↓two_false, mkv, aggAt, Nat.reduceLeDiff, Nat.reduceSub, Nat.reduceMul, implies_true, Nat.reduceEqDiff, reduceIte, Nat.reduceAdd, Nat.reduceBEq, reduceCtorEq, al26, bs24_1, bs24_2, ld26, st26, q40.rd 2 rfl, q40.rd 9 rfl, q40.rd 13 rfl, q40.rd 14 rfl, q38.rd 2 rfl, q38.rd 9 rfl, q38.rd 13 rfl, q38.rd 14 rfl, q39.rd 2 rfl, q39.rd 9 rfl, q39.rd 13 rfl, q39.rd 14 rfl]
        -- end4
        exact ⟨s1, s2, _, _, xs3, xd7, _, _, [x1], xd3, rfl, (q40.out hcb0).give [0, 1, 3, 4] (by decide) _ rfl, (by first | omega | (simp; omega) | simp), (by first | omega | (simp; omega) | simp), (by first | omega | (simp; omega) | simp), (by first | omega | (simp; omega) | simp)⟩
      ·
        try simp -implicitDefEqProofs only [kz, kk0, kk1, kk2, kk3, ↓two_true, ↓two_false, mkv, aggAt, Nat.reduceLeDiff, Nat.reduceSub, Nat.reduceMul, implies_true, Nat.reduceEqDiff, reduceIte, Nat.reduceAdd, Nat.reduceBEq, reduceCtorEq, al26, bs24_1, bs24_2, ld26, st26, q36.rd 0 rfl, q36.rd 7 rfl, q36.rd 11 rfl, q36.rd 12 rfl]
        refine two_intro (fun u6 => ?_) (fun u6 => ?_)
        ·
          try simp -implicitDefEqProofs only [kz, kk0, kk1, kk2, kk3, ↓two_true, ↓two_false, mkv, aggAt, Nat.reduceLeDiff, Nat.reduceSub, Nat.reduceMul, implies_true, Nat.reduceEqDiff, reduceIte, Nat.reduceAdd, Nat.reduceBEq, reduceCtorEq, al26, bs24_1, bs24_2, ld26, st26, q36.rd 0 rfl, q36.rd 7 rfl, q36.rd 11 rfl, q36.rd 12 rfl]
          refine (l3Draw_ok q36.cur).mono ?_
          rintro _ H41 ⟨⟨p15, p16, xs4, xd8, rfl, d8, m7, m8⟩, hf17⟩
          have q41 := q36.da d8 hf17
          obtain ⟨a15, c15, rfl⟩ := (q41.own 0 rfl).isSlice
          obtain ⟨a16, c16, rfl⟩ := (q41.own 1 rfl).isSlice
          simp -implicitDefEqProofs only [kz, kk0, kk1, kk2, kk3, ↓two_true, ↓two_false, mkv, aggAt, Nat.reduceLeDiff, Nat.reduceSub, Nat.reduceMul, implies_true, Nat.reduceEqDiff, reduceIte, Nat.reduceAdd, Nat.reduceBEq, reduceCtorEq, al26, bs24_1, bs24_2, ld26, st26, q41.rd 2 rfl, q41.rd 9 rfl, q41.rd 13 rfl, q41.rd 14 rfl]
          refine st_set q41 2 rfl fun H42 q42 => ?_
          simp only [List.set_cons_zero, List.set_cons_succ] at q42
          simp -implicitDefEqProofs only [kz, kk0, kk1, kk2, kk3, ↓two_true, ↓two_false, mkv, aggAt, Nat.reduceLeDiff, Nat.reduceSub, Nat.reduceMul, implies_true, Nat.reduceEqDiff, reduceIte, Nat.reduceAdd, Nat.reduceBEq, reduceCtorEq, al26, bs24_1, bs24_2, ld26, st26, q42.rd 2 rfl, q42.rd 9 rfl, q42.rd 13 rfl, q42.rd 14 rfl]
          refine st_set q42 14 rfl fun H43 q43 => ?_
          simp only [List.set_cons_zero, List.set_cons_succ] at q43
          simp -implicitDefEqProofs only [kz, kk0, kk1, kk2, kk3, ↓two_true, ↓two_false, mkv, aggAt, Nat.reduceLeDiff, Nat.reduceSub, Nat.reduceMul, implies_true, Nat.reduceEqDiff, reduceIte, Nat.reduceAdd, Nat.reduceBEq, reduceCtorEq, al26, bs24_1, bs24_2, ld26, st26, q43.rd 2 rfl, q43.rd 9 rfl, q43.rd 13 rfl, q43.rd 14 rfl, q42.rd 2 rfl, q42.rd 9 rfl, q42.rd 13 rfl, q42.rd 14 rfl]
          refine st_set q43 13 rfl fun H44 q44 => ?_
          simp only [List.set_cons_zero, List.set_cons_succ] at q44
          simp -implicitDefEqProofs only [kz, kk0, kk1, kk2, kk3, ↓two_true, ↓two_false, mkv, aggAt, Nat.reduceLeDiff, Nat.reduceSub, Nat.reduceMul, implies_true, Nat.reduceEqDiff, reduceIte, Nat.reduceAdd, Nat.reduceBEq, reduceCtorEq, al26, bs24_1, bs24_2, ld26, st26, q44.rd 2 rfl, q44.rd 9 rfl, q44.rd 13 rfl, q44.rd 14 rfl, q42.rd 2 rfl, q42.rd 9 rfl, q42.rd 13 rfl, q42.rd 14 rfl, q43.rd 2 rfl, q43.rd 9 rfl, q43.rd 13 rfl, q43.rd 14 rfl]
          -- end5
          exact ⟨s1, s2, _, _, [x2, x1], xd2, _, _, xs4, xd8, rfl, (q44.out hcb0).give [6, 7, 0, 1] (by decide) _ rfl, (by first | omega | (simp; omega) | simp), (by first | omega | (simp; omega) | simp), (by first | omega | (simp; omega) | simp), (by first | omega | (simp; omega) | simp)⟩
        ·
          try simp -implicitDefEqProofs only [kz, kk0, kk1, kk2, kk3, ↓two_true, ↓two_false, mkv, aggAt, Nat.reduceLeDiff, Nat.reduceSub, Nat.reduceMul, implies_true, Nat.reduceEqDiff, reduceIte, Nat.reduceAdd, Nat.reduceBEq, reduceCtorEq, al26, bs24_1, bs24_2, ld26, st26, q36.rd 0 rfl, q36.rd 7 rfl, q36.rd 11 rfl, q36.rd 12 rfl]
          refine st_set q36 12 rfl fun H45 q45 => ?_
          simp only [List.set_cons_zero, List.set_cons_succ] at q45
          simp -implicitDefEqProofs only [kz, kk0, kk1, kk2, kk3, ↓two_true, ↓two_false, mkv, aggAt, Nat.reduceLeDiff, Nat.reduceSub, Nat.reduceMul, implies_true, Nat.reduceEqDiff, reduceIte, Nat.reduceAdd, Nat.reduceBEq, reduceCtorEq, al26, bs24_1, bs24_2, ld26, st26, q45.rd 0 rfl, q45.rd 7 rfl, q45.rd 11 rfl, q45.rd 12 rfl, q36.rd 0 rfl, q36.rd 7 rfl, q36.rd 11 rfl, q36.rd 12 rfl]
          refine st_set q45 11 rfl fun H46 q46 => ?_
          simp only [List.set_cons_zero, List.set_cons_succ] at q46
          simp -implicitDefEqProofs only [kz, kk0, kk1, kk2, kk3, ↓two_true, ↓two_false, mkv, aggAt, Nat.reduceLeDiff, Nat.reduceSub, Nat.reduceMul, implies_true, Nat.reduceEqDiff, reduceIte, Nat.reduceAdd, Nat.reduceBEq, reduceCtorEq, al26, bs24_1, bs24_2, ld26, st26, q46.rd 0 rfl, q46.rd 7 rfl, q46.rd 11 rfl, q46.rd 12 rfl, q36.rd 0 rfl, q36.rd 7 rfl, q36.rd 11 rfl, q36.rd 12 rfl, q45.rd 0 rfl, q45.rd 7 rfl, q45.rd 11 rfl, q45.rd 12 rfl]
          -- end6
          exact ⟨s1, s2, _, _, [x2, x1], xd2, _, _, [x1], xd3, rfl, (q46.out hcb0).give [4, 5, 1, 2] (by decide) _ rfl, (by first | omega | (simp; omega) | simp), (by first | omega | (simp; omega) | simp), (by first | omega | (simp; omega) | simp), (by first | omega | (simp; omega) | simp)⟩
  ·
    try simp -implicitDefEqProofs only [kz, kk0, kk1, kk2, kk3, ↓two_true, ↓two_false, mkv, aggAt, Nat.reduceLeDiff, Nat.reduceSub, Nat.reduceMul, implies_true, Nat.reduceEqDiff, reduceIte, Nat.reduceAdd, Nat.reduceBEq, reduceCtorEq, al26, bs24_1, bs24_2, ld26, st26, q11.rd 0 rfl, q11.rd 4 rfl, q11.rd 5 rfl]
    refine st_lit [x1] rfl rfl q11 fun H47 q47 => ?_
    simp -implicitDefEqProofs only [kz, kk0, kk1, kk2, kk3, ↓two_true, ↓two_false, mkv, aggAt, Nat.reduceLeDiff, Nat.reduceSub, Nat.reduceMul, implies_true, Nat.reduceEqDiff, reduceIte, Nat.reduceAdd, Nat.reduceBEq, reduceCtorEq, al26, bs24_1, bs24_2, ld26, st26, q47.rd 1 rfl, q47.rd 5 rfl, q47.rd 6 rfl]
    refine (l3Fill_ok q47.cur (q47.own 0 rfl) (q47.nc 0 rfl) (by first | omega | (simp; omega) | simp)).mono ?_
    rintro _ H48 ⟨⟨p17, p18, xd9, rfl, d9, n5, -⟩, hf18⟩
    have hl_xd9 : xd9.length ≤ 300 := by have := sizeI_le (l := [x1]); omega
    have q48 := q47.da d9 hf18
    obtain ⟨a17, c17, rfl⟩ := (q48.own 0 rfl).isSlice
    obtain ⟨a18, c18, rfl⟩ := (q48.own 1 rfl).isSlice
    simp -implicitDefEqProofs only [kz, kk0, kk1, kk2, kk3, ↓two_true, ↓two_false, mkv, aggAt, Nat.reduceLeDiff, Nat.reduceSub, Nat.reduceMul, implies_true, Nat.reduceEqDiff, reduceIte, Nat.reduceAdd, Nat.reduceBEq, reduceCtorEq, al26, bs24_1, bs24_2, ld26, st26, q48.rd 3 rfl, q48.rd 7 rfl, q48.rd 8 rfl]
    refine st_box q48 fun H49 q49 => ?_
    simp -implicitDefEqProofs only [kz, kk0, kk1, kk2, kk3, ↓two_true, ↓two_false, mkv, aggAt, Nat.reduceLeDiff, Nat.reduceSub, Nat.reduceMul, implies_true, Nat.reduceEqDiff, reduceIte, Nat.reduceAdd, Nat.reduceBEq, reduceCtorEq, al26, bs24_1, bs24_2, ld26, st26, q49.rd 0 rfl, q49.rd 4 rfl, q49.rd 8 rfl, q49.rd 9 rfl]
    refine st_set q49 0 rfl fun H50 q50 => ?_
    simp only [List.set_cons_zero, List.set_cons_succ] at q50
    simp -implicitDefEqProofs only [kz, kk0, kk1, kk2, kk3, ↓two_true, ↓two_false, mkv, aggAt, Nat.reduceLeDiff, Nat.reduceSub, Nat.reduceMul, implies_true, Nat.reduceEqDiff, reduceIte, Nat.reduceAdd, Nat.reduceBEq, reduceCtorEq, al26, bs24_1, bs24_2, ld26, st26, q50.rd 0 rfl, q50.rd 4 rfl, q50.rd 8 rfl, q50.rd 9 rfl]
    refine (l1Once_ok q50.cur).mono ?_
    rintro _ H51 ⟨⟨bb3, rfl⟩, hf19⟩
    have q51 := q50.call hf19
    simp -implicitDefEqProofs only [kz, kk0, kk1, kk2, kk3, ↓two_true, ↓two_false, mkv, aggAt, Nat.reduceLeDiff, Nat.reduceSub, Nat.reduceMul, implies_true, Nat.reduceEqDiff, reduceIte, Nat.reduceAdd, Nat.reduceBEq, reduceCtorEq, al26, bs24_1, bs24_2, ld26, st26, q51.rd 0 rfl, q51.rd 4 rfl, q51.rd 8 rfl, q51.rd 9 rfl]
    refine two_intro (fun u7 => ?_) (fun u7 => ?_)
    ·
      try simp -implicitDefEqProofs only [kz, kk0, kk1, kk2, kk3, ↓two_true, ↓two_false, mkv, aggAt, Nat.reduceLeDiff, Nat.reduceSub, Nat.reduceMul, implies_true, Nat.reduceEqDiff, reduceIte, Nat.reduceAdd, Nat.reduceBEq, reduceCtorEq, al26, bs24_1, bs24_2, ld26, st26, q51.rd 0 rfl, q51.rd 4 rfl, q51.rd 8 rfl, q51.rd 9 rfl]
      refine (l1Below_ok q51.cur).mono ?_
      rintro _ H52 ⟨⟨x6, rfl, -, hx6⟩, hf20⟩
      have q52 := q51.call hf20
      simp -implicitDefEqProofs only [kz, kk0, kk1, kk2, kk3, ↓two_true, ↓two_false, mkv, aggAt, Nat.reduceLeDiff, Nat.reduceSub, Nat.reduceMul, implies_true, Nat.reduceEqDiff, reduceIte, Nat.reduceAdd, Nat.reduceBEq, reduceCtorEq, al26, bs24_1, bs24_2, ld26, st26, q52.rd 0 rfl, q52.rd 4 rfl, q52.rd 8 rfl, q52.rd 9 rfl]
      refine st_lit [x1, x6] rfl rfl q52 fun H53 q53 => ?_
      simp -implicitDefEqProofs only [kz, kk0, kk1, kk2, kk3, ↓two_true, ↓two_false, mkv, aggAt, Nat.reduceLeDiff, Nat.reduceSub, Nat.reduceMul, implies_true, Nat.reduceEqDiff, reduceIte, Nat.reduceAdd, Nat.reduceBEq, reduceCtorEq, al26, bs24_1, bs24_2, ld26, st26, q53.rd 1 rfl, q53.rd 5 rfl, q53.rd 9 rfl, q53.rd 10 rfl]
      refine (l3Fill_ok q53.cur (q53.own 0 rfl) (q53.nc 0 rfl) (by first | omega | (simp; omega) | simp)).mono ?_
      rintro _ H54 ⟨⟨p19, p20, xd10, rfl, d10, n6, -⟩, hf21⟩
      have hl_xd10 : xd10.length ≤ 300 := by have := sizeI_le (l := [x1, x6]); omega
      have q54 := q53.da d10 hf21
      obtain ⟨a19, c19, rfl⟩ := (q54.own 0 rfl).isSlice
      obtain ⟨a20, c20, rfl⟩ := (q54.own 1 rfl).isSlice
      simp -implicitDefEqProofs only [kz, kk0, kk1, kk2, kk3, ↓two_true, ↓two_false, mkv, aggAt, Nat.reduceLeDiff, Nat.reduceSub, Nat.reduceMul, implies_true, Nat.reduceEqDiff, reduceIte, Nat.reduceAdd, Nat.reduceBEq, reduceCtorEq, al26, bs24_1, bs24_2, ld26, st26, q54.rd 3 rfl, q54.rd 7 rfl, q54.rd 11 rfl, q54.rd 12 rfl]
      refine st_set q54 3 rfl fun H55 q55 => ?_
      simp only [List.set_cons_zero, List.set_cons_succ] at q55
      simp -implicitDefEqProofs only [kz, kk0, kk1, kk2, kk3, ↓two_true, ↓two_false, mkv, aggAt, Nat.reduceLeDiff, Nat.reduceSub, Nat.reduceMul, implies_true, Nat.reduceEqDiff, reduceIte, Nat.reduceAdd, Nat.reduceBEq, reduceCtorEq, al26, bs24_1, bs24_2, ld26, st26, q55.rd 3 rfl, q55.rd 7 rfl, q55.rd 11 rfl, q55.rd 12 rfl]
      refine (l1Below_ok q55.cur).mono ?_
      rintro _ H56 ⟨⟨x7, rfl, -, hx7⟩, hf22⟩
      have q56 := q55.call hf22
      simp -implicitDefEqProofs only [kz, kk0, kk1, kk2, kk3, ↓two_true, ↓two_false, mkv, aggAt, Nat.reduceLeDiff, Nat.reduceSub, Nat.reduceMul, implies_true, Nat.reduceEqDiff, reduceIte, Nat.reduceAdd, Nat.reduceBEq, reduceCtorEq, al26, bs24_1, bs24_2, ld26, st26, q56.rd 3 rfl, q56.rd 7 rfl, q56.rd 11 rfl, q56.rd 12 rfl]
      refine two_intro (fun u8 => ?_) (fun u8 => ?_)
      ·
        try simp -implicitDefEqProofs only [kz, kk0, kk1, kk2, kk3, ↓two_true, ↓two_false, mkv, aggAt, Nat.reduceLeDiff, Nat.reduceSub, Nat.reduceMul, implies_true, Nat.reduceEqDiff, reduceIte, Nat.reduceAdd, Nat.reduceBEq, reduceCtorEq, al26, bs24_1, bs24_2, ld26, st26, q56.rd 3 rfl, q56.rd 7 rfl, q56.rd 11 rfl, q56.rd 12 rfl]
        refine (l3Draw_ok q56.cur).mono ?_
        rintro _ H57 ⟨⟨p21, p22, xs5, xd11, rfl, d11, m9, m10⟩, hf23⟩
        have q57 := q56.da d11 hf23
        obtain ⟨a21, c21, rfl⟩ := (q57.own 0 rfl).isSlice
        obtain ⟨a22, c22, rfl⟩ := (q57.own 1 rfl).isSlice
        simp -implicitDefEqProofs only [kz, kk0, kk1, kk2, kk3, ↓two_true, ↓two_false, mkv, aggAt, Nat.reduceLeDiff, Nat.reduceSub, Nat.reduceMul, implies_true, Nat.reduceEqDiff, reduceIte, Nat.reduceAdd, Nat.reduceBEq, reduceCtorEq, al26, bs24_1, bs24_2, ld26, st26, q57.rd 5 rfl, q57.rd 9 rfl, q57.rd 13 rfl, q57.rd 14 rfl]
        refine st_set q57 9 rfl fun H58 q58 => ?_
        simp only [List.set_cons_zero, List.set_cons_succ] at q58
        simp -implicitDefEqProofs only [kz, kk0, kk1, kk2, kk3, ↓two_true, ↓two_false, mkv, aggAt, Nat.reduceLeDiff, Nat.reduceSub, Nat.reduceMul, implies_true, Nat.reduceEqDiff, reduceIte, Nat.reduceAdd, Nat.reduceBEq, reduceCtorEq, al26, bs24_1, bs24_2, ld26, st26, q58.rd 5 rfl, q58.rd 9 rfl, q58.rd 13 rfl, q58.rd 14 rfl]
        refine st_set q58 14 rfl fun H59 q59 => ?_
        simp only [List.set_cons_zero, List.set_cons_succ] at q59
        simp -implicitDefEqProofs only [kz, kk0, kk1, kk2, kk3, ↓two_true, ↓two_false, mkv, aggAt, Nat.reduceLeDiff, Nat.reduceSub, Nat.reduceMul, implies_true, Nat.reduceEqDiff, reduceIte, Nat.reduceAdd, Nat.reduceBEq, reduceCtorEq, al26, bs24_1, bs24_2, ld26, st26, q59.rd 5 rfl, q59.rd 9 rfl, q59.rd 13 rfl, q59.rd 14 rfl, q58.rd 5 rfl, q58.rd 9 rfl, q58.rd 13 rfl, q58.rd 14 rfl]
        refine st_set q59 13 rfl fun H60 q60 => ?_
        simp only [List.set_cons_zero, List.set_cons_succ] at q60
        simp -implicitDefEqProofs only [kz, kk0, kk1, kk2, kk3, ↓two_true, ↓two_false, mkv, aggAt, Nat.reduceLeDiff, Nat.reduceSub, Nat.reduceMul, implies_true, Nat.reduceEqDiff, reduceIte, Nat.reduceAdd, Nat.reduceBEq, reduceCtorEq, al26, bs24_1, bs24_2, ld26, st26, q60.rd 5 rfl, q60.rd 9 rfl, q60.rd 13 rfl, q60.rd 14 rfl, q58.rd 5 rfl, q58.rd 9 rfl, q58.rd 13 rfl, q58.rd 14 rfl, q59.rd 5 rfl, q59.rd 9 rfl, q59.rd 13 rfl, q59.rd 14 rfl]
        -- end7
        exact ⟨s1, s2, _, _, xs5, xd11, _, _, [x1, x6], xd10, rfl, (q60.out hcb0).give [0, 1, 2, 3] (by decide) _ rfl, (by first | omega | (simp; omega) | simp), (by first | omega | (simp; omega) | simp), (by first | omega | (simp; omega) | simp), (by first | omega | (simp; omega) | simp)⟩
      ·
        try simp -implicitDefEqProofs only [kz, kk0, kk1, kk2, kk3, ↓two_true, ↓two_false, mkv, aggAt, Nat.reduceLeDiff, Nat.reduceSub, Nat.reduceMul, implies_true, Nat.reduceEqDiff, reduceIte, Nat.reduceAdd, Nat.reduceBEq, reduceCtorEq, al26, bs24_1, bs24_2, ld26, st26, q56.rd 3 rfl, q56.rd 7 rfl, q56.rd 11 rfl, q56.rd 12 rfl]
        refine two_intro (fun u9 => ?_) (fun u9 => ?_)
        ·
          try simp -implicitDefEqProofs only [kz, kk0, kk1, kk2, kk3, ↓two_true, ↓two_false, mkv, aggAt, Nat.reduceLeDiff, Nat.reduceSub, Nat.reduceMul, implies_true, Nat.reduceEqDiff, reduceIte, Nat.reduceAdd, Nat.reduceBEq, reduceCtorEq, al26, bs24_1, bs24_2, ld26, st26, q56.rd 3 rfl, q56.rd 7 rfl, q56.rd 11 rfl, q56.rd 12 rfl]
          refine (l3Draw_ok q56.cur).mono ?_
          rintro _ H61 ⟨⟨p23, p24, xs6, xd12, rfl, d12, m11, m12⟩, hf24⟩
          have q61 := q56.da d12 hf24
          obtain ⟨a23, c23, rfl⟩ := (q61.own 0 rfl).isSlice
          obtain ⟨a24, c24, rfl⟩ := (q61.own 1 rfl).isSlice
          simp -implicitDefEqProofs only [kz, kk0, kk1, kk2, kk3, ↓two_true, ↓two_false, mkv, aggAt, Nat.reduceLeDiff, Nat.reduceSub, Nat.reduceMul, implies_true, Nat.reduceEqDiff, reduceIte, Nat.reduceAdd, Nat.reduceBEq, reduceCtorEq, al26, bs24_1, bs24_2, ld26, st26, q61.rd 5 rfl, q61.rd 9 rfl, q61.rd 13 rfl, q61.rd 14 rfl]
          refine st_set q61 5 rfl fun H62 q62 => ?_
          simp only [List.set_cons_zero, List.set_cons_succ] at q62
          simp -implicitDefEqProofs only [kz, kk0, kk1, kk2, kk3, ↓two_true, ↓two_false, mkv, aggAt, Nat.reduceLeDiff, Nat.reduceSub, Nat.reduceMul, implies_true, Nat.reduceEqDiff, reduceIte, Nat.reduceAdd, Nat.reduceBEq, reduceCtorEq, al26, bs24_1, bs24_2, ld26, st26, q62.rd 5 rfl, q62.rd 9 rfl, q62.rd 13 rfl, q62.rd 14 rfl]
          refine st_set q62 14 rfl fun H63 q63 => ?_
          simp only [List.set_cons_zero, List.set_cons_succ] at q63
          simp -implicitDefEqProofs only [kz, kk0, kk1, kk2, kk3, ↓two_true, ↓two_false, mkv, aggAt, Nat.reduceLeDiff, Nat.reduceSub, Nat.reduceMul, implies_true, Nat.reduceEqDiff, reduceIte, Nat.reduceAdd, Nat.reduceBEq, reduceCtorEq, al26, bs24_1, bs24_2, ld26, st26, q63.rd 5 rfl, q63.rd 9 rfl, q63.rd 13 rfl, q63.rd 14 rfl, q62.rd 5 rfl, q62.rd 9 rfl, q62.rd 13 rfl, q62.rd 14 rfl]
          refine st_set q63 13 rfl fun H64 q64 => ?_
          simp only [List.set_cons_zero, List.set_cons_succ] at q64
          simp -implicitDefEqProofs only [kz, kk0, kk1, kk2, kk3, ↓two_true, ↓two_false, mkv, aggAt, Nat.reduceLeDiff, Nat.reduceSub, Nat.reduceMul, implies_true, Nat.reduceEqDiff, reduceIte, Nat.reduceAdd, Nat.reduceBEq, reduceCtorEq, al26, bs24_1, bs24_2, ld26, st26, q64.rd 5 rfl, q64.rd 9 rfl, q64.rd 13 rfl, q64.rd 14 rfl, q62.rd 5 rfl, q62.rd 9 rfl, q62.rd 13 rfl, q62.rd 14 rfl, q63.rd 5 rfl, q63.rd 9 rfl, q63.rd 13 rfl, q63.rd 14 rfl]
          -- end8
          exact ⟨s1, s2, _, _, [x1], xd1, _, _, xs6, xd12, rfl, (q64.out hcb0).give [10, 11, 0, 1] (by decide) _ rfl, (by first | omega | (simp; omega) | simp), (by first | omega | (simp; omega) | simp), (by first | omega | (simp; omega) | simp), (by first | omega | (simp; omega) | simp)⟩
        ·
          try simp -implicitDefEqProofs only [kz, kk0, kk1, kk2, kk3, ↓two_true, ↓two_false, mkv, aggAt, Nat.reduceLeDiff, Nat.reduceSub, Nat.reduceMul, implies_true, Nat.reduceEqDiff, reduceIte, Nat.reduceAdd, Nat.reduceBEq, reduceCtorEq, al26, bs24_1, bs24_2, ld26, st26, q56.rd 3 rfl, q56.rd 7 rfl, q56.rd 11 rfl, q56.rd 12 rfl]
          refine st_set q56 12 rfl fun H65 q65 => ?_
          simp only [List.set_cons_zero, List.set_cons_succ] at q65
          simp -implicitDefEqProofs only [kz, kk0, kk1, kk2, kk3, ↓two_true, ↓two_false, mkv, aggAt, Nat.reduceLeDiff, Nat.reduceSub, Nat.reduceMul, implies_true, Nat.reduceEqDiff, reduceIte, Nat.reduceAdd, Nat.reduceBEq, reduceCtorEq, al26, bs24_1, bs24_2, ld26, st26, q65.rd 3 rfl, q65.rd 7 rfl, q65.rd 11 rfl, q65.rd 12 rfl, q56.rd 3 rfl, q56.rd 7 rfl, q56.rd 11 rfl, q56.rd 12 rfl]
          refine st_set q65 11 rfl fun H66 q66 => ?_
          simp only [List.set_cons_zero, List.set_cons_succ] at q66
          simp -implicitDefEqProofs only [kz, kk0, kk1, kk2, kk3, ↓two_true, ↓two_false, mkv, aggAt, Nat.reduceLeDiff, Nat.reduceSub, Nat.reduceMul, implies_true, Nat.reduceEqDiff, reduceIte, Nat.reduceAdd, Nat.reduceBEq, reduceCtorEq, al26, bs24_1, bs24_2, ld26, st26, q66.rd 3 rfl, q66.rd 7 rfl, q66.rd 11 rfl, q66.rd 12 rfl, q56.rd 3 rfl, q56.rd 7 rfl, q56.rd 11 rfl, q56.rd 12 rfl, q65.rd 3 rfl, q65.rd 7 rfl, q65.rd 11 rfl, q65.rd 12 rfl]
          -- end9
          exact ⟨s1, s2, _, _, [x1], xd1, _, _, [x1, x6], xd10, rfl, (q66.out hcb0).give [8, 9, 0, 1] (by decide) _ rfl, (by first | omega | (simp; omega) | simp), (by first | omega | (simp; omega) | simp), (by first | omega | (simp; omega) | simp), (by first | omega | (simp; omega) | simp)⟩
    ·
      try simp -implicitDefEqProofs only [kz, kk0, kk1, kk2, kk3, ↓two_true, ↓two_false, mkv, aggAt, Nat.reduceLeDiff, Nat.reduceSub, Nat.reduceMul, implies_true, Nat.reduceEqDiff, reduceIte, Nat.reduceAdd, Nat.reduceBEq, reduceCtorEq, al26, bs24_1, bs24_2, ld26, st26, q51.rd 0 rfl, q51.rd 4 rfl, q51.rd 8 rfl, q51.rd 9 rfl]
      refine (l1Below_ok q51.cur).mono ?_
      rintro _ H67 ⟨⟨x8, rfl, -, hx8⟩, hf25⟩
      have q67 := q51.call hf25
      simp -implicitDefEqProofs only [kz, kk0, kk1, kk2, kk3, ↓two_true, ↓two_false, mkv, aggAt, Nat.reduceLeDiff, Nat.reduceSub, Nat.reduceMul, implies_true, Nat.reduceEqDiff, reduceIte, Nat.reduceAdd, Nat.reduceBEq, reduceCtorEq, al26, bs24_1, bs24_2, ld26, st26, q67.rd 0 rfl, q67.rd 4 rfl, q67.rd 8 rfl, q67.rd 9 rfl]
      refine two_intro (fun u10 => ?_) (fun u10 => ?_)
      ·
        try simp -implicitDefEqProofs only [kz, kk0, kk1, kk2, kk3, ↓two_true, ↓two_false, mkv, aggAt, Nat.reduceLeDiff, Nat.reduceSub, Nat.reduceMul, implies_true, Nat.reduceEqDiff, reduceIte, Nat.reduceAdd, Nat.reduceBEq, reduceCtorEq, al26, bs24_1, bs24_2, ld26, st26, q67.rd 0 rfl, q67.rd 4 rfl, q67.rd 8 rfl, q67.rd 9 rfl]
        refine (l3Draw_ok q67.cur).mono ?_
        rintro _ H68 ⟨⟨p25, p26, xs7, xd13, rfl, d13, m13, m14⟩, hf26⟩
        have q68 := q67.da d13 hf26
        obtain ⟨a25, c25, rfl⟩ := (q68.own 0 rfl).isSlice
        obtain ⟨a26, c26, rfl⟩ := (q68.own 1 rfl).isSlice
        simp -implicitDefEqProofs only [kz, kk0, kk1, kk2, kk3, ↓two_true, ↓two_false, mkv, aggAt, Nat.reduceLeDiff, Nat.reduceSub, Nat.reduceMul, implies_true, Nat.reduceEqDiff, reduceIte, Nat.reduceAdd, Nat.reduceBEq, reduceCtorEq, al26, bs24_1, bs24_2, ld26, st26, q68.rd 2 rfl, q68.rd 6 rfl, q68.rd 10 rfl, q68.rd 11 rfl]
        refine st_set q68 6 rfl fun H69 q69 => ?_
        simp only [List.set_cons_zero, List.set_cons_succ] at q69
        simp -implicitDefEqProofs only [kz, kk0, kk1, kk2, kk3, ↓two_true, ↓two_false, mkv, aggAt, Nat.reduceLeDiff, Nat.reduceSub, Nat.reduceMul, implies_true, Nat.reduceEqDiff, reduceIte, Nat.reduceAdd, Nat.reduceBEq, reduceCtorEq, al26, bs24_1, bs24_2, ld26, st26, q69.rd 2 rfl, q69.rd 6 rfl, q69.rd 10 rfl, q69.rd 11 rfl]
        refine st_set q69 11 rfl fun H70 q70 => ?_
        simp only [List.set_cons_zero, List.set_cons_succ] at q70
        simp -implicitDefEqProofs only [kz, kk0, kk1, kk2, kk3, ↓two_true, ↓two_false, mkv, aggAt, Nat.reduceLeDiff, Nat.reduceSub, Nat.reduceMul, implies_true, Nat.reduceEqDiff, reduceIte, Nat.reduceAdd, Nat.reduceBEq, reduceCtorEq, al26, bs24_1, bs24_2, ld26, st26, q70.rd 2 rfl, q70.rd 6 rfl, q70.rd 10 rfl, q70.rd 11 rfl, q69.rd 2 rfl, q69.rd 6 rfl, q69.rd 10 rfl, q69.rd 11 rfl]
        refine st_set q70 10 rfl fun H71 q71 => ?_
        simp only [List.set_cons_zero, List.set_cons_succ] at q71
        simp -implicitDefEqProofs only [kz, kk0, kk1, kk2, kk3, ↓two_true, ↓two_false, mkv, aggAt, Nat.reduceLeDiff, Nat.reduceSub, Nat.reduceMul, implies_true, Nat.reduceEqDiff, reduceIte, Nat.reduceAdd, Nat.reduceBEq, reduceCtorEq, al26, bs24_1, bs24_2, ld26, st26, q71.rd 2 rfl, q71.rd 6 rfl, q71.rd 10 rfl, q71.rd 11 rfl, q69.rd 2 rfl, q69.rd 6 rfl, q69.rd 10 rfl, q69.rd 11 rfl, q70.rd 2 rfl, q70.rd 6 rfl, q70.rd 10 rfl, q70.rd 11 rfl]
        -- end10
        exact ⟨s1, s2, _, _, xs7, xd13, _, _, [x1], xd9, rfl, (q71.out hcb0).give [0, 1, 3, 4] (by decide) _ rfl, (by first | omega | (simp; omega) | simp), (by first | omega | (simp; omega) | simp), (by first | omega | (simp; omega) | simp), (by first | omega | (simp; omega) | simp)⟩
      ·
        try simp -implicitDefEqProofs only [kz, kk0, kk1, kk2, kk3, ↓two_true, ↓two_false, mkv, aggAt, Nat.reduceLeDiff, Nat.reduceSub, Nat.reduceMul, implies_true, Nat.reduceEqDiff, reduceIte, Nat.reduceAdd, Nat.reduceBEq, reduceCtorEq, al26, bs24_1, bs24_2, ld26, st26, q67.rd 0 rfl, q67.rd 4 rfl, q67.rd 8 rfl, q67.rd 9 rfl]
        refine two_intro (fun u11 => ?_) (fun u11 => ?_)
        ·
          try simp -implicitDefEqProofs only [kz, kk0, kk1, kk2, kk3, ↓two_true, ↓two_false, mkv, aggAt, Nat.reduceLeDiff, Nat.reduceSub, Nat.reduceMul, implies_true, Nat.reduceEqDiff, reduceIte, Nat.reduceAdd, Nat.reduceBEq, reduceCtorEq, al26, bs24_1, bs24_2, ld26, st26, q67.rd 0 rfl, q67.rd 4 rfl, q67.rd 8 rfl, q67.rd 9 rfl]
          refine (l3Draw_ok q67.cur).mono ?_
          rintro _ H72 ⟨⟨p27, p28, xs8, xd14, rfl, d14, m15, m16⟩, hf27⟩
          have q72 := q67.da d14 hf27
          obtain ⟨a27, c27, rfl⟩ := (q72.own 0 rfl).isSlice
          obtain ⟨a28, c28, rfl⟩ := (q72.own 1 rfl).isSlice
          simp -implicitDefEqProofs only [kz, kk0, kk1, kk2, kk3, ↓two_true, ↓two_false, mkv, aggAt, Nat.reduceLeDiff, Nat.reduceSub, Nat.reduceMul, implies_true, Nat.reduceEqDiff, reduceIte, Nat.reduceAdd, Nat.reduceBEq, reduceCtorEq, al26, bs24_1, bs24_2, ld26, st26, q72.rd 2 rfl, q72.rd 6 rfl, q72.rd 10 rfl, q72.rd 11 rfl]
          refine st_set q72 2 rfl fun H73 q73 => ?_
          simp only [List.set_cons_zero, List.set_cons_succ] at q73
          simp -implicitDefEqProofs only [kz, kk0, kk1, kk2, kk3, ↓two_true, ↓two_false, mkv, aggAt, Nat.reduceLeDiff, Nat.reduceSub, Nat.reduceMul, implies_true, Nat.reduceEqDiff, reduceIte, Nat.reduceAdd, Nat.reduceBEq, reduceCtorEq, al26, bs24_1, bs24_2, ld26, st26, q73.rd 2 rfl, q73.rd 6 rfl, q73.rd 10 rfl, q73.rd 11 rfl]
          refine st_set q73 11 rfl fun H74 q74 => ?_
          simp only [List.set_cons_zero, List.set_cons_succ] at q74
          simp -implicitDefEqProofs only [kz, kk0, kk1, kk2, kk3, ↓two_true, ↓two_false, mkv, aggAt, Nat.reduceLeDiff, Nat.reduceSub, Nat.reduceMul, implies_true, Nat.reduceEqDiff, reduceIte, Nat.reduceAdd, Nat.reduceBEq, reduceCtorEq, al26, bs24_1, bs24_2, ld26, st26, q74.rd 2 rfl, q74.rd 6 rfl, q74.rd 10 rfl, q74.rd 11 rfl, q73.rd 2 rfl, q73.rd 6 rfl, q73.rd 10 rfl, q73.rd 11 rfl]
          refine st_set q74 10 rfl fun H75 q75 => ?_
          simp only [List.set_cons_zero, List.set_cons_succ] at q75
          simp -implicitDefEqProofs only [kz, kk0, kk1, kk2, kk3, ↓two_true, ↓two_false, mkv, aggAt, Nat.reduceLeDiff, Nat.reduceSub, Nat.reduceMul, implies_true, Nat.reduceEqDiff, reduceIte, Nat.reduceAdd, Nat.reduceBEq, reduceCtorEq, al26, bs24_1, bs24_2, ld26, st26, q75.rd 2 rfl, q75.rd 6 rfl, q75.rd 10 rfl, q75.rd 11 rfl, q73.rd 2 rfl, q73.rd 6 rfl, q73.rd 10 rfl, q73.rd 11 rfl, q74.rd 2 rfl, q74.rd 6 rfl, q74.rd 10 rfl, q74.rd 11 rfl]
          -- end11
          exact ⟨s1, s2, _, _, [x1], xd1, _, _, xs8, xd14, rfl, (q75.out hcb0).give [7, 8, 0, 1] (by decide) _ rfl, (by first | omega | (simp; omega) | simp), (by first | omega | (simp; omega) | simp), (by first | omega | (simp; omega) | simp), (by first | omega | (simp; omega) | simp)⟩
        ·
          try simp -implicitDefEqProofs only [kz, kk0, kk1, kk2, kk3, ↓two_true, ↓two_false, mkv, aggAt, Nat.reduceLeDiff, Nat.reduceSub, Nat.reduceMul, implies_true, Nat.reduceEqDiff, reduceIte, Nat.reduceAdd, Nat.reduceBEq, reduceCtorEq, al26, bs24_1, bs24_2, ld26, st26, q67.rd 0 rfl, q67.rd 4 rfl, q67.rd 8 rfl, q67.rd 9 rfl]
          refine st_set q67 9 rfl fun H76 q76 => ?_
          simp only [List.set_cons_zero, List.set_cons_succ] at q76
          simp -implicitDefEqProofs only [kz, kk0, kk1, kk2, kk3, ↓two_true, ↓two_false, mkv, aggAt, Nat.reduceLeDiff, Nat.reduceSub, Nat.reduceMul, implies_true, Nat.reduceEqDiff, reduceIte, Nat.reduceAdd, Nat.reduceBEq, reduceCtorEq, al26, bs24_1, bs24_2, ld26, st26, q76.rd 0 rfl, q76.rd 4 rfl, q76.rd 8 rfl, q76.rd 9 rfl, q67.rd 0 rfl, q67.rd 4 rfl, q67.rd 8 rfl, q67.rd 9 rfl]
          refine st_set q76 8 rfl fun H77 q77 => ?_
          simp only [List.set_cons_zero, List.set_cons_succ] at q77
          simp -implicitDefEqProofs only [kz, kk0, kk1, kk2, kk3, ↓two_true, ↓two_false, mkv, aggAt, Nat.reduceLeDiff, Nat.reduceSub, Nat.reduceMul, implies_true, Nat.reduceEqDiff, reduceIte, Nat.reduceAdd, Nat.reduceBEq, reduceCtorEq, al26, bs24_1, bs24_2, ld26, st26, q77.rd 0 rfl, q77.rd 4 rfl, q77.rd 8 rfl, q77.rd 9 rfl, q67.rd 0 rfl, q67.rd 4 rfl, q67.rd 8 rfl, q67.rd 9 rfl, q76.rd 0 rfl, q76.rd 4 rfl, q76.rd 8 rfl, q76.rd 9 rfl]
          -- end12
          exact ⟨s1, s2, _, _, [x1], xd1, _, _, [x1], xd9, rfl, (q77.out hcb0).give [5, 6, 1, 2] (by decide) _ rfl, (by first | omega | (simp; omega) | simp), (by first | omega | (simp; omega) | simp), (by first | omega | (simp; omega) | simp), (by first | omega | (simp; omega) | simp)⟩

def iotaL (n : Nat) : List Int := (List.range n).map fun i : Nat => (i : Int)
theorem iotaL_succ {n : Nat} : iotaL (n + 1) = iotaL n ++ [(n : Int)] := by unfold iotaL; rw [List.range_succ, List.map_append, List.map_cons, List.map_nil]
theorem iotaL_len {n : Nat} : (iotaL n).length = n := by simp [iotaL]
def iotaR (sa da : List Int) : (List Int × List Int) × Int :=
  if arrOk sa da = true then (if da.length ≠ 1 then (([], []), 3) else if da.headD 0 < 0 then (([], []), 2) else if 300 < da.headD 0 then (([], []), 6) else (([((iotaL (da.headD 0).toNat).length : Int)], iotaL (da.headD 0).toNat), 0)) else (([], []), 1)

theorem implIota_ok {H : AH} {pa qa : Value} {sa da : List Int} (a : AR H pa qa sa da) : CallsA Try.prog 26 #[.agg #[pa, qa]] H fun r H' => Ans1 H H' r (iotaR sa da) := by
  have al := a.l1
  have bl := a.l2
  obtain ⟨za, zc, zb, zd, rfl, rfl⟩ := a.o1
  have q := (LX.nil (H := H))
  refine w26 ?_
  unfold k26
  simp -implicitDefEqProofs only [kz, kk0, kk1, kk2, kk3, ↓two_true, ↓two_false, mkv, aggAt, Nat.reduceLeDiff, Nat.reduceSub, Nat.reduceMul, implies_true, Nat.reduceEqDiff, reduceIte, Nat.reduceAdd, Nat.reduceBEq, reduceCtorEq, al26, ap24_24, bd26, bs24_1, fa26_1, ix24, ld3, ld24, ld26, ln24, st26]
  refine st_box q fun H1 q1 => ?_
  simp -implicitDefEqProofs only [kz, kk0, kk1, kk2, kk3, ↓two_true, ↓two_false, mkv, aggAt, Nat.reduceLeDiff, Nat.reduceSub, Nat.reduceMul, implies_true, Nat.reduceEqDiff, reduceIte, Nat.reduceAdd, Nat.reduceBEq, reduceCtorEq, al26, ap24_24, bd26, bs24_1, fa26_1, ix24, ld3, ld24, ld26, ln24, st26, q1.rd 0 rfl]
  refine st_box q1 fun H2 q2 => ?_
  simp -implicitDefEqProofs only [kz, kk0, kk1, kk2, kk3, ↓two_true, ↓two_false, mkv, aggAt, Nat.reduceLeDiff, Nat.reduceSub, Nat.reduceMul, implies_true, Nat.reduceEqDiff, reduceIte, Nat.reduceAdd, Nat.reduceBEq, reduceCtorEq, al26, ap24_24, bd26, bs24_1, fa26_1, ix24, ld3, ld24, ld26, ln24, st26, q2.rd 0 rfl, q2.rd 1 rfl]
  refine (implOk_ar (a.ext q2.ext)).mono ?_
  rintro _ H3 ⟨rfl, he1⟩
  have q3 := q2.extd he1
  simp -implicitDefEqProofs only [kz, kk0, kk1, kk2, kk3, ↓two_true, ↓two_false, mkv, aggAt, Nat.reduceLeDiff, Nat.reduceSub, Nat.reduceMul, implies_true, Nat.reduceEqDiff, reduceIte, Nat.reduceAdd, Nat.reduceBEq, reduceCtorEq, al26, ap24_24, bd26, bs24_1, fa26_1, ix24, ld3, ld24, ld26, ln24, st26, q3.rd 0 rfl, q3.rd 1 rfl]
  refine two_intro (fun u1 => ?_) (fun u1 => ?_)
  ·
    have w1 : arrOk sa da = false := by simpa using u1
    try simp -implicitDefEqProofs only [kz, kk0, kk1, kk2, kk3, ↓two_true, ↓two_false, mkv, aggAt, Nat.reduceLeDiff, Nat.reduceSub, Nat.reduceMul, implies_true, Nat.reduceEqDiff, reduceIte, Nat.reduceAdd, Nat.reduceBEq, reduceCtorEq, al26, ap24_24, bd26, bs24_1, fa26_1, ix24, ld3, ld24, ld26, ln24, st26, q3.rd 0 rfl, q3.rd 1 rfl]
    refine st_set q3 0 rfl fun H4 q4 => ?_
    simp only [List.set_cons_zero, List.set_cons_succ] at q4
    simp -implicitDefEqProofs only [kz, kk0, kk1, kk2, kk3, ↓two_true, ↓two_false, mkv, aggAt, Nat.reduceLeDiff, Nat.reduceSub, Nat.reduceMul, implies_true, Nat.reduceEqDiff, reduceIte, Nat.reduceAdd, Nat.reduceBEq, reduceCtorEq, al26, ap24_24, bd26, bs24_1, fa26_1, ix24, ld3, ld24, ld26, ln24, st26, q4.rd 0 rfl, q4.rd 1 rfl]
    -- end1
    exact q4.err (by unfold iotaR; rw [if_neg (by rw [w1]; decide)])
  ·
    have v1 : arrOk sa da = true := by simpa using u1
    try simp -implicitDefEqProofs only [kz, kk0, kk1, kk2, kk3, ↓two_true, ↓two_false, mkv, aggAt, Nat.reduceLeDiff, Nat.reduceSub, Nat.reduceMul, implies_true, Nat.reduceEqDiff, reduceIte, Nat.reduceAdd, Nat.reduceBEq, reduceCtorEq, al26, ap24_24, bd26, bs24_1, fa26_1, ix24, ld3, ld24, ld26, ln24, st26, q3.rd 0 rfl, q3.rd 1 rfl]
    refine two_intro (fun u2 => ?_) (fun u2 => ?_)
    ·
      have v2 : da.length ≠ 1 := by have h5 : ¬ (da.length : Int) = 1 := (by simpa using u2); omega
      try simp -implicitDefEqProofs only [kz, kk0, kk1, kk2, kk3, ↓two_true, ↓two_false, mkv, aggAt, Nat.reduceLeDiff, Nat.reduceSub, Nat.reduceMul, implies_true, Nat.reduceEqDiff, reduceIte, Nat.reduceAdd, Nat.reduceBEq, reduceCtorEq, al26, ap24_24, bd26, bs24_1, fa26_1, ix24, ld3, ld24, ld26, ln24, st26, q3.rd 0 rfl, q3.rd 1 rfl]
      refine st_set q3 0 rfl fun H5 q5 => ?_
      simp only [List.set_cons_zero, List.set_cons_succ] at q5
      simp -implicitDefEqProofs only [kz, kk0, kk1, kk2, kk3, ↓two_true, ↓two_false, mkv, aggAt, Nat.reduceLeDiff, Nat.reduceSub, Nat.reduceMul, implies_true, Nat.reduceEqDiff, reduceIte, Nat.reduceAdd, Nat.reduceBEq, reduceCtorEq, al26, ap24_24, bd26, bs24_1, fa26_1, ix24, ld3, ld24, ld26, ln24, st26, q5.rd 0 rfl, q5.rd 1 rfl]
      -- end2
      exact q5.err (by unfold iotaR; rw [if_pos v1, if_pos v2])
    ·
      have v2 : da.length = 1 := by have h5 : (da.length : Int) = 1 := (by simpa using u2); omega
      have h0 : 0 < da.length := by omega
      obtain ⟨b1, o1, cs1, ei1, fr1, fc1⟩ := ixI0 (a.od.ext q3.ext) (List.getElem?_eq_getElem h0)
      try simp -implicitDefEqProofs only [kz, kk0, kk1, kk2, kk3, ↓two_true, ↓two_false, mkv, aggAt, Nat.reduceLeDiff, Nat.reduceSub, Nat.reduceMul, implies_true, Nat.reduceEqDiff, reduceIte, Nat.reduceAdd, Nat.reduceBEq, reduceCtorEq, al26, ap24_24, bd26, bs24_1, fa26_1, ix24, ld3, ld24, ld26, ln24, st26, ei1, fr1, fc1, q3.rd 0 rfl, q3.rd 1 rfl]
      refine two_intro (fun u3 => ?_) (fun u3 => ?_)
      ·
        have v3 : da[0] < 0 := by simpa using u3
        try simp -implicitDefEqProofs only [kz, kk0, kk1, kk2, kk3, ↓two_true, ↓two_false, mkv, aggAt, Nat.reduceLeDiff, Nat.reduceSub, Nat.reduceMul, implies_true, Nat.reduceEqDiff, reduceIte, Nat.reduceAdd, Nat.reduceBEq, reduceCtorEq, al26, ap24_24, bd26, bs24_1, fa26_1, ix24, ld3, ld24, ld26, ln24, st26, ei1, fr1, fc1, q3.rd 0 rfl, q3.rd 1 rfl]
        refine st_set q3 0 rfl fun H6 q6 => ?_
        simp only [List.set_cons_zero, List.set_cons_succ] at q6
        simp -implicitDefEqProofs only [kz, kk0, kk1, kk2, kk3, ↓two_true, ↓two_false, mkv, aggAt, Nat.reduceLeDiff, Nat.reduceSub, Nat.reduceMul, implies_true, Nat.reduceEqDiff, reduceIte, Nat.reduceAdd, Nat.reduceBEq, reduceCtorEq, al26, ap24_24, bd26, bs24_1, fa26_1, ix24, ld3, ld24, ld26, ln24, st26, q6.rd 0 rfl, q6.rd 1 rfl]
        -- end3
        exact q6.err (by unfold iotaR; rw [if_pos v1, if_neg (fun h => h v2), if_pos (by rw [headD_get h0]; exact v3)])
      ·
        obtain ⟨n, hn⟩ : ∃ n : Nat, da[0] = (n : Int) := ⟨da[0].toNat, by have h5 : ¬ da[0] < 0 := (by simpa using u3); omega⟩
        have hh : da.headD 0 = (n : Int) := by rw [headD_get h0, hn]
        obtain ⟨b2, o2, cs2, ei2, fr2, fc2⟩ := ixI0 (a.od.ext q3.ext) (List.getElem?_eq_getElem h0)
        try simp -implicitDefEqProofs only [kz, kk0, kk1, kk2, kk3, ↓two_true, ↓two_false, mkv, aggAt, Nat.reduceLeDiff, Nat.reduceSub, Nat.reduceMul, implies_true, Nat.reduceEqDiff, reduceIte, Nat.reduceAdd, Nat.reduceBEq, reduceCtorEq, al26, ap24_24, bd26, bs24_1, fa26_1, ix24, ld3, ld24, ld26, ln24, st26, hn, ei1, fr1, fc1, ei2, fr2, fc2, q3.rd 0 rfl, q3.rd 1 rfl]
        refine two_intro (fun u4 => ?_) (fun u4 => ?_)
        ·
          have v4 : 300 < (n : Int) := of_decide_eq_true u4
          try simp -implicitDefEqProofs only [kz, kk0, kk1, kk2, kk3, ↓two_true, ↓two_false, mkv, aggAt, Nat.reduceLeDiff, Nat.reduceSub, Nat.reduceMul, implies_true, Nat.reduceEqDiff, reduceIte, Nat.reduceAdd, Nat.reduceBEq, reduceCtorEq, al26, ap24_24, bd26, bs24_1, fa26_1, ix24, ld3, ld24, ld26, ln24, st26, hn, ei1, fr1, fc1, ei2, fr2, fc2, q3.rd 0 rfl, q3.rd 1 rfl]
          refine st_set q3 0 rfl fun H7 q7 => ?_
          simp only [List.set_cons_zero, List.set_cons_succ] at q7
          simp -implicitDefEqProofs only [kz, kk0, kk1, kk2, kk3, ↓two_true, ↓two_false, mkv, aggAt, Nat.reduceLeDiff, Nat.reduceSub, Nat.reduceMul, implies_true, Nat.reduceEqDiff, reduceIte, Nat.reduceAdd, Nat.reduceBEq, reduceCtorEq, al26, ap24_24, bd26, bs24_1, fa26_1, ix24, ld3, ld24, ld26, ln24, st26, hn, q7.rd 0 rfl, q7.rd 1 rfl]
          -- end4
          exact q7.err (by unfold iotaR; rw [if_pos v1, if_neg (fun h => h v2), if_neg (by omega), if_pos (by omega)])
        ·
          have v4 : n ≤ 300 := by have h5 := of_decide_eq_false u4; omega
          try simp -implicitDefEqProofs only [kz, kk0, kk1, kk2, kk3, ↓two_true, ↓two_false, mkv, aggAt, Nat.reduceLeDiff, Nat.reduceSub, Nat.reduceMul, implies_true, Nat.reduceEqDiff, reduceIte, Nat.reduceAdd, Nat.reduceBEq, reduceCtorEq, al26, ap24_24, bd26, bs24_1, fa26_1, ix24, ld3, ld24, ld26, ln24, st26, hn, ei1, fr1, fc1, ei2, fr2, fc2, q3.rd 0 rfl, q3.rd 1 rfl]
          have q8 := q3.nil0
          refine rW_loopQ (σ := Nat × Value) q8 [1, 2, 3] (fun x tm => tm 5 = .int .i64 x.1 ∧ tm 4 = x.2 ∧ x.1 ≤ n) (fun x L => L.set 0 (.own (.row x.2 (iotaL x.1)))) (fun x => n - x.1) (0, _) ⟨rfl, by first | rfl | assumption, Nat.zero_le _⟩ rfl ?_
          rintro ⟨i, ov⟩ tm1 H8 ⟨lv1, lv2, lv3, -⟩ ⟨ki, ko, hi⟩ q9
          simp -implicitDefEqProofs only [kz, kk0, kk1, kk2, kk3, ↓two_true, ↓two_false, mkv, aggAt, Nat.reduceLeDiff, Nat.reduceSub, Nat.reduceMul, implies_true, Nat.reduceEqDiff, reduceIte, Nat.reduceAdd, Nat.reduceBEq, reduceCtorEq, al26, ap24_24, bd26, bs24_1, fa26_1, ix24, ld3, ld24, ld26, ln24, st26, hn] at lv1 lv2 lv3
          simp only [List.set_cons_zero, List.set_cons_succ] at q9
          simp only at ki ko hi
          have wi : IntKind.i64.wrap ((i : Int) + 1) = ((i + 1 : Nat) : Int) := IntWalk.i64_in ((i : Int) + 1) (by omega)
          obtain ⟨a1, c1, rfl⟩ := (q9.own 0 rfl).isSlice
          obtain ⟨b3, o3, cs3, ei3, fr3, fc3⟩ := ixI0 (a.od.ext q9.ext) (List.getElem?_eq_getElem h0)
          simp -implicitDefEqProofs only [kz, kk0, kk1, kk2, kk3, ↓two_true, ↓two_false, mkv, aggAt, Nat.reduceLeDiff, Nat.reduceSub, Nat.reduceMul, implies_true, Nat.reduceEqDiff, reduceIte, Nat.reduceAdd, Nat.reduceBEq, reduceCtorEq, al26, ap24_24, bd26, bs24_1, fa26_1, ix24, ld3, ld24, ld26, ln24, st26, hn, ei3, fr3, fc3, lv1, lv2, lv3, ki, ko, wi, q9.rd 1 rfl, q9.rd 2 rfl]
          refine two_intro (fun u5 => ?_) (fun u5 => ?_)
          ·
            have hi2 : i < n := by have h5 := of_decide_eq_true u5; omega
            try simp -implicitDefEqProofs only [kz, kk0, kk1, kk2, kk3, ↓two_true, ↓two_false, mkv, aggAt, Nat.reduceLeDiff, Nat.reduceSub, Nat.reduceMul, implies_true, Nat.reduceEqDiff, reduceIte, Nat.reduceAdd, Nat.reduceBEq, reduceCtorEq, al26, ap24_24, bd26, bs24_1, fa26_1, ix24, ld3, ld24, ld26, ln24, st26, hn, ei3, fr3, fc3, lv1, lv2, lv3, ki, ko, wi, q9.rd 1 rfl, q9.rd 2 rfl]
            refine st_lit [(i : Int)] rfl rfl q9 fun H9 q10 => ?_
            simp -implicitDefEqProofs only [kz, kk0, kk1, kk2, kk3, ↓two_true, ↓two_false, mkv, aggAt, Nat.reduceLeDiff, Nat.reduceSub, Nat.reduceMul, implies_true, Nat.reduceEqDiff, reduceIte, Nat.reduceAdd, Nat.reduceBEq, reduceCtorEq, al26, ap24_24, bd26, bs24_1, fa26_1, ix24, ld3, ld24, ld26, ln24, st26, hn, lv1, lv2, lv3, ki, ko, wi, q10.rd 2 rfl, q10.rd 3 rfl]
            refine st_app q10 1 rfl (q10.int 0 rfl) (by rw [iotaL_len]; simp; omega) fun a2 c2 H10 q11 => ?_
            simp only [List.set_cons_zero, List.set_cons_succ, List.length_nil, List.length_cons, Nat.zero_add, List.nil_append] at q11 ⊢
            simp -implicitDefEqProofs only [kz, kk0, kk1, kk2, kk3, ↓two_true, ↓two_false, mkv, aggAt, Nat.reduceLeDiff, Nat.reduceSub, Nat.reduceMul, implies_true, Nat.reduceEqDiff, reduceIte, Nat.reduceAdd, Nat.reduceBEq, reduceCtorEq, al26, ap24_24, bd26, bs24_1, fa26_1, ix24, ld3, ld24, ld26, ln24, st26, hn, lv1, lv2, lv3, ki, ko, wi, q11.rd 2 rfl, q11.rd 3 rfl]
            -- back loop1
            refine ⟨(i + 1, _), (by simp only; omega), ⟨rfl, rfl, rfl, trivial⟩, ⟨by first | rfl | simp, rfl, hi2⟩, ?_⟩
            simp only [List.set_cons_zero, List.set_cons_succ, iotaL_succ]
            exact q11.pick [1, 2, 3] _ rfl (by decide)
          ·
            have hil : i = n := Nat.le_antisymm hi (by have h5 := of_decide_eq_false u5; omega)
            subst hil
            try simp -implicitDefEqProofs only [kz, kk0, kk1, kk2, kk3, ↓two_true, ↓two_false, mkv, aggAt, Nat.reduceLeDiff, Nat.reduceSub, Nat.reduceMul, implies_true, Nat.reduceEqDiff, reduceIte, Nat.reduceAdd, Nat.reduceBEq, reduceCtorEq, al26, ap24_24, bd26, bs24_1, fa26_1, ix24, ld3, ld24, ld26, ln24, st26, hn, ei3, fr3, fc3, lv1, lv2, lv3, ki, ko, wi, q9.rd 1 rfl, q9.rd 2 rfl]
            refine (vector_ok (q9.int 0 rfl) (by rw [iotaL_len]; omega) ).mono ?_
            rintro _ H11 ⟨p1, p2, rfl, g1⟩
            have q12 := q9.join g1
            simp only [List.map_cons, List.map_nil, List.cons_append, List.nil_append] at q12
            obtain ⟨a3, c3, rfl⟩ := (q12.own 0 rfl).isSlice
            obtain ⟨a4, c4, rfl⟩ := (q12.own 1 rfl).isSlice
            simp -implicitDefEqProofs only [kz, kk0, kk1, kk2, kk3, ↓two_true, ↓two_false, mkv, aggAt, Nat.reduceLeDiff, Nat.reduceSub, Nat.reduceMul, implies_true, Nat.reduceEqDiff, reduceIte, Nat.reduceAdd, Nat.reduceBEq, reduceCtorEq, al26, ap24_24, bd26, bs24_1, fa26_1, ix24, ld3, ld24, ld26, ln24, st26, hn, lv1, lv2, lv3, ki, ko, wi, q12.rd 3 rfl, q12.rd 4 rfl]
            refine st_set q12 3 rfl fun H12 q13 => ?_
            simp only [List.set_cons_zero, List.set_cons_succ] at q13
            simp -implicitDefEqProofs only [kz, kk0, kk1, kk2, kk3, ↓two_true, ↓two_false, mkv, aggAt, Nat.reduceLeDiff, Nat.reduceSub, Nat.reduceMul, implies_true, Nat.reduceEqDiff, reduceIte, Nat.reduceAdd, Nat.reduceBEq, reduceCtorEq, al26, ap24_24, bd26, bs24_1, fa26_1, ix24, ld3, ld24, ld26, ln24, st26, hn, lv1, lv2, lv3, ki, ko, wi, q13.rd 3 rfl, q13.rd 4 rfl]
            -- end5
            exact q13.ans 0 1 (by decide) rfl rfl (by unfold iotaR; rw [if_pos v1, if_neg (fun h => h v2), if_neg (by omega), if_neg (by omega), hh]; rfl)

theorem cast1u : ((1 : Nat) : Int) = 1 := rfl
def unitD (n : Nat) : List Int := outD 61 (iotaL n) (iotaL n)
theorem unitU {n : Nat} (h : n ≤ 6) : outR 61 [(n : Int)] (iotaL n) [(n : Int)] (iotaL n) = (([(n : Int), (n : Int)], unitD n), 0) ∧ arrOk [(n : Int), (n : Int)] (unitD n) = true ∧ (unitD n).length = n * n ∧ ∀ k, k < n → ∀ c, c < n → (unitD n).getD (k * n + c) 0 = if k = c then 1 else 0 := by
  rcases (by omega : n = 0 ∨ n = 1 ∨ n = 2 ∨ n = 3 ∨ n = 4 ∨ n = 5 ∨ n = 6) with rfl | rfl | rfl | rfl | rfl | rfl | rfl <;> decide
theorem iota_one {n : Nat} (h : n ≤ 6) : iotaR [] [(n : Int)] = (([(n : Int)], iotaL n), 0) := by
  unfold iotaR
  rw [if_pos (arrOk_scl (numOk_iff.2 (by omega))), if_neg (by simp), if_neg (by simp only [List.headD_cons]; omega), if_neg (by simp only [List.headD_cons]; omega)]
  simp only [List.headD_cons, Int.toNat_natCast, iotaL_len]
theorem twoF_addU {x y : Int} (hx : numOk x = true) (hy : numOk y = true) : twoF 43 x y = if numOk (x + y) = true then (x + y, 0) else (0, 6) := by
  unfold twoF
  rw [hx, hy, show sg2 43 = true by decide]
  have hr : raw2 43 x y = x + y := by simp [raw2]
  rw [hr]
  rfl
theorem twoF_mul {x y : Int} (hx : numOk x = true) (hy : y = 0 ∨ y = 1) : twoF 42 x y = (x * y, 0) := by
  have hr : raw2 42 x y = x * y := by simp [raw2]
  have h0 : numOk (x * y) = true := by
    rcases hy with rfl | rfl
    · rw [Int.mul_zero]; decide
    · rw [Int.mul_one]; exact hx
  have h1 : numOk y = true := by rcases hy with rfl | rfl <;> decide
  unfold twoF
  rw [hx, h1, show sg2 42 = true by decide, hr, h0]
  rfl
theorem num0 : numOk 0 = true := by decide
theorem redV_z {d : Nat} : redV 43 (List.replicate (d + 1) 0) = (0, 0) := by
  induction d with
  | zero => rfl
  | succ d ih =>
    rw [List.replicate_succ, List.replicate_succ]
    simp only [redV]
    rw [List.replicate_succ] at ih
    rw [ih, if_pos rfl, twoF_addU num0 num0]
    rfl
theorem redV_a {a : Int} {d : Nat} (ha : numOk a = true) : redV 43 (a :: List.replicate d 0) = (a, 0) := by
  cases d with
  | zero => rfl
  | succ d =>
    have := redV_z (d := d)
    rw [List.replicate_succ] at this ⊢
    simp only [redV]
    rw [this, if_pos rfl, twoF_addU ha num0, Int.add_zero, if_pos ha]
theorem redV_d {a : Int} {c d : Nat} (ha : numOk a = true) : redV 43 (List.replicate c 0 ++ a :: List.replicate d 0) = (a, 0) := by
  induction c with
  | zero => exact redV_a ha
  | succ c ih =>
    obtain ⟨y, l, e⟩ := List.exists_cons_of_ne_nil (show List.replicate c 0 ++ a :: List.replicate d 0 ≠ [] by simp)
    rw [List.replicate_succ, List.cons_append, e]
    rw [e] at ih
    simp only [redV]
    rw [ih, if_pos rfl, twoF_addU num0 ha, Int.zero_add, if_pos ha]
theorem dot_unit {A B : Nat → Int} {n c : Nat} (hc : c < n) (hA : ∀ k, k < n → numOk (A k) = true) (hB : ∀ k, k < n → B k = if k = c then 1 else 0) : dotR 43 42 A B n = (A c, 0) := by
  have ht : ∀ k, k < n → twoF 42 (A k) (B k) = (A k * B k, 0) := fun k hk => twoF_mul (hA k hk) (by rw [hB k hk]; by_cases e : k = c <;> simp [e])
  have h1 : dotC 42 A B n = 0 := firstC_rng0 fun j hj => by rw [ht j hj]
  have h2 : dotL 42 A B n = List.replicate c 0 ++ A c :: List.replicate (n - c - 1) 0 := by
    refine List.ext_getElem (by rw [dotL_len]; simp; omega) fun i h1 h2 => ?_
    rw [dotL_len] at h1
    have e : (dotL 42 A B n)[i]'(by rw [dotL_len]; exact h1) = A i * B i := by simp only [dotL, List.getElem_map, List.getElem_range]; rw [ht i h1]
    rw [e, hB i h1]
    rcases Nat.lt_trichotomy i c with h | h | h
    · rw [if_neg (by omega), Int.mul_zero, List.getElem_append_left (by simpa using h), List.getElem_replicate]
    · subst h
      rw [if_pos rfl, Int.mul_one, List.getElem_append_right (by simp)]; simp
    · rw [if_neg (by omega), Int.mul_zero, List.getElem_append_right (by simp; omega)]
      simp only [List.length_replicate]
      obtain ⟨d, hd⟩ := Nat.exists_eq_add_of_lt h
      have : i - c = d + 1 := by omega
      simp only [this, List.getElem_cons_succ, List.getElem_replicate]
  have h3 : redN 43 (dotL 42 A B n) = (A c, 0) := by
    unfold redN
    rw [dotL_len, if_neg (by omega), h2]
    exact redV_d (hA c hc)
  unfold dotR
  rw [if_pos h1, h3, if_pos rfl]
theorem unit_inner {sa da : List Int} {p n : Nat} (h : arrOk sa da = true) (hs : sa = [(p : Int), (n : Int)]) (hl : p * n = da.length) (hn : n ≤ 6) : innR 43 42 sa da [(n : Int), (n : Int)] (unitD n) = ((sa, da), 0) := by
  obtain ⟨-, ob, hul, hu⟩ := unitU hn
  have hna : da.all numOk = true := by have h2 := h; unfold arrOk at h2; simp only [Bool.and_eq_true] at h2; exact h2.2
  have hS : innS sa [(n : Int), (n : Int)] = sa := by subst hs; rfl
  have hz := (arrOk_size h).1
  have hr : (sizeI [(n : Int), (n : Int)].tail).toNat = n := by
    show (sizeI [(n : Int)]).toNat = n
    rw [sizeI_one (by omega)]; simp
  have hN : ∀ j, j < da.length → innN 43 42 [(n : Int), (n : Int)] da (unitD n) j = (da.getD j 0, 0) := by
    intro j hj
    have hn0 : 0 < n := Nat.pos_of_ne_zero (by rintro rfl; omega)
    have hq : j / n < p := (Nat.div_lt_iff_lt_mul hn0).2 (by omega)
    have hm : j % n < n := Nat.mod_lt _ hn0
    have hqm : j / n * n + n ≤ p * n := by have := Nat.mul_le_mul_right n (show j / n + 1 ≤ p from hq); rw [Nat.add_mul, Nat.one_mul] at this; exact this
    unfold innN
    simp only [hr, List.headD_cons, Int.toNat_natCast]
    rw [dot_unit hm (fun k hk => by rw [getD_lt (by omega)]; exact List.all_eq_true.1 hna _ (List.getElem_mem _)) (fun k hk => hu k hk _ hm)]
    have e : j / n * n + j % n = j := Nat.div_add_mod' j n
    rw [e]
  unfold innR
  rw [if_pos (by rw [h, ob]; rfl), if_neg (by subst hs; simp), if_neg (by subst hs; simp), hS, if_neg (by omega)]
  have hzn : (sizeI sa).toNat = da.length := by omega
  have hC : innC 43 42 [(n : Int), (n : Int)] da (unitD n) da.length = 0 := firstC_rng0 fun j hj => by rw [hN j hj]
  have hD : innD 43 42 [(n : Int), (n : Int)] da (unitD n) da.length = da := by
    refine List.ext_getElem (by rw [innD_len]) fun i h1 h2 => ?_
    simp only [innD, List.getElem_map, List.getElem_range]
    rw [hN i h2, getD_lt h2]
  rw [hzn, hC, if_pos rfl, hD]

set_option maxHeartbeats 4000000 in
theorem law13 : LawA Try.prog 13 [22] := by
  intro H vs hro h
  obtain ⟨v, vs, rfl, hv, h2⟩ := h.cons
  obtain rfl := h2.nil
  obtain ⟨a0, n0, c0, rfl, hb⟩ := rpBytes hv Try.underlying22 Try.underlying5 (by kernel_rfl)
  clear hv h2 hro
  have q := (LX.nil (H := H))
  refine w13 ?_
  unfold k13
  simp -implicitDefEqProofs only [kz, kk0, kk1, kk2, kk3, ↓two_true, ↓two_false, mkv, aggAt, Nat.reduceLeDiff, Nat.reduceSub, Nat.reduceMul, implies_true, Nat.reduceEqDiff, reduceIte, Nat.reduceAdd, Nat.reduceBEq, reduceCtorEq, al26, fa26_0, ix24, ld3, ld24, ld26, ln24, st26, (bin_bool_eql ub4), (bin_bool_neq ub4), big_eq, bne_self_eq_false, beq_self_eq_true, Bool.not_true, Bool.and_self, cast0]
  refine two_intro (fun u1 => ?_) (fun u1 => ?_)
  ·
    try simp -implicitDefEqProofs only [kz, kk0, kk1, kk2, kk3, ↓two_true, ↓two_false, mkv, aggAt, Nat.reduceLeDiff, Nat.reduceSub, Nat.reduceMul, implies_true, Nat.reduceEqDiff, reduceIte, Nat.reduceAdd, Nat.reduceBEq, reduceCtorEq, al26, fa26_0, ix24, ld3, ld24, ld26, ln24, st26, (bin_bool_eql ub4), (bin_bool_neq ub4), big_eq, bne_self_eq_false, beq_self_eq_true, Bool.not_true, Bool.and_self, cast0]
    -- end1
    all_goals trivial
  ·
    have hn0 : n0 ≤ 1048576 := by simp at u1; omega
    try simp -implicitDefEqProofs only [kz, kk0, kk1, kk2, kk3, ↓two_true, ↓two_false, mkv, aggAt, Nat.reduceLeDiff, Nat.reduceSub, Nat.reduceMul, implies_true, Nat.reduceEqDiff, reduceIte, Nat.reduceAdd, Nat.reduceBEq, reduceCtorEq, al26, fa26_0, ix24, ld3, ld24, ld26, ln24, st26, (bin_bool_eql ub4), (bin_bool_neq ub4), big_eq, bne_self_eq_false, beq_self_eq_true, Bool.not_true, Bool.and_self, cast0]
    refine (DrawInner_ok (BRv.ext ⟨a0, n0, c0, rfl, hn0, hb⟩ q.ext)).mono ?_
    rintro _ H1 ⟨f, g, p1, p2, sa, da, p3, p4, sb, db, rfl, g1, lsa, lda, lsb, ldb⟩
    have q1 := q.join g1
    simp only [List.map_cons, List.map_nil, List.cons_append, List.nil_append] at q1
    obtain ⟨a1, c1, rfl⟩ := (q1.own 0 rfl).isSlice
    obtain ⟨a2, c2, rfl⟩ := (q1.own 1 rfl).isSlice
    obtain ⟨a3, c3, rfl⟩ := (q1.own 2 rfl).isSlice
    obtain ⟨a4, c4, rfl⟩ := (q1.own 3 rfl).isSlice
    simp -implicitDefEqProofs only [kz, kk0, kk1, kk2, kk3, ↓two_true, ↓two_false, mkv, aggAt, Nat.reduceLeDiff, Nat.reduceSub, Nat.reduceMul, implies_true, Nat.reduceEqDiff, reduceIte, Nat.reduceAdd, Nat.reduceBEq, reduceCtorEq, al26, fa26_0, ix24, ld3, ld24, ld26, ln24, st26, (bin_bool_eql ub4), (bin_bool_neq ub4), big_eq, bne_self_eq_false, beq_self_eq_true, Bool.not_true, Bool.and_self, cast0]
    refine st_box q1 fun H2 q2 => ?_
    simp -implicitDefEqProofs only [kz, kk0, kk1, kk2, kk3, ↓two_true, ↓two_false, mkv, aggAt, Nat.reduceLeDiff, Nat.reduceSub, Nat.reduceMul, implies_true, Nat.reduceEqDiff, reduceIte, Nat.reduceAdd, Nat.reduceBEq, reduceCtorEq, al26, fa26_0, ix24, ld3, ld24, ld26, ln24, st26, (bin_bool_eql ub4), (bin_bool_neq ub4), big_eq, bne_self_eq_false, beq_self_eq_true, Bool.not_true, Bool.and_self, cast0, q2.rd 0 rfl]
    refine st_box q2 fun H3 q3 => ?_
    simp -implicitDefEqProofs only [kz, kk0, kk1, kk2, kk3, ↓two_true, ↓two_false, mkv, aggAt, Nat.reduceLeDiff, Nat.reduceSub, Nat.reduceMul, implies_true, Nat.reduceEqDiff, reduceIte, Nat.reduceAdd, Nat.reduceBEq, reduceCtorEq, al26, fa26_0, ix24, ld3, ld24, ld26, ln24, st26, (bin_bool_eql ub4), (bin_bool_neq ub4), big_eq, bne_self_eq_false, beq_self_eq_true, Bool.not_true, Bool.and_self, cast0, q3.rd 0 rfl, q3.rd 1 rfl]
    refine st_set q3 1 rfl fun H4 q4 => ?_
    simp only [List.set_cons_zero, List.set_cons_succ] at q4
    simp -implicitDefEqProofs only [kz, kk0, kk1, kk2, kk3, ↓two_true, ↓two_false, mkv, aggAt, Nat.reduceLeDiff, Nat.reduceSub, Nat.reduceMul, implies_true, Nat.reduceEqDiff, reduceIte, Nat.reduceAdd, Nat.reduceBEq, reduceCtorEq, al26, fa26_0, ix24, ld3, ld24, ld26, ln24, st26, (bin_bool_eql ub4), (bin_bool_neq ub4), big_eq, bne_self_eq_false, beq_self_eq_true, Bool.not_true, Bool.and_self, cast0, q4.rd 0 rfl, q4.rd 1 rfl]
    refine st_set q4 0 rfl fun H5 q5 => ?_
    simp only [List.set_cons_zero, List.set_cons_succ] at q5
    simp -implicitDefEqProofs only [kz, kk0, kk1, kk2, kk3, ↓two_true, ↓two_false, mkv, aggAt, Nat.reduceLeDiff, Nat.reduceSub, Nat.reduceMul, implies_true, Nat.reduceEqDiff, reduceIte, Nat.reduceAdd, Nat.reduceBEq, reduceCtorEq, al26, fa26_0, ix24, ld3, ld24, ld26, ln24, st26, (bin_bool_eql ub4), (bin_bool_neq ub4), big_eq, bne_self_eq_false, beq_self_eq_true, Bool.not_true, Bool.and_self, cast0, q5.rd 0 rfl, q5.rd 1 rfl]
    refine (implOk_ar (q5.ar 2 3 rfl rfl (by (try simp only [List.length_cons, List.length_nil, List.length_append, List.length_replicate, List.length_map, List.length_take, List.length_drop]); omega) (by (try simp only [List.length_cons, List.length_nil, List.length_append, List.length_replicate, List.length_map, List.length_take, List.length_drop]); omega))).mono ?_
    rintro _ H6 ⟨rfl, he1⟩
    have q6 := q5.extd he1
    simp -implicitDefEqProofs only [kz, kk0, kk1, kk2, kk3, ↓two_true, ↓two_false, mkv, aggAt, Nat.reduceLeDiff, Nat.reduceSub, Nat.reduceMul, implies_true, Nat.reduceEqDiff, reduceIte, Nat.reduceAdd, Nat.reduceBEq, reduceCtorEq, al26, fa26_0, ix24, ld3, ld24, ld26, ln24, st26, (bin_bool_eql ub4), (bin_bool_neq ub4), big_eq, bne_self_eq_false, beq_self_eq_true, Bool.not_true, Bool.and_self, cast0, q6.rd 0 rfl, q6.rd 1 rfl, q5.rd 0 rfl, q5.rd 1 rfl]
    refine (specOk_ar (q6.ar 2 3 rfl rfl (by (try simp only [List.length_cons, List.length_nil, List.length_append, List.length_replicate, List.length_map, List.length_take, List.length_drop]); omega) (by (try simp only [List.length_cons, List.length_nil, List.length_append, List.length_replicate, List.length_map, List.length_take, List.length_drop]); omega))).mono ?_
    rintro _ H7 ⟨rfl, he2⟩
    have q7 := q6.extd he2
    simp -implicitDefEqProofs only [kz, kk0, kk1, kk2, kk3, ↓two_true, ↓two_false, mkv, aggAt, Nat.reduceLeDiff, Nat.reduceSub, Nat.reduceMul, implies_true, Nat.reduceEqDiff, reduceIte, Nat.reduceAdd, Nat.reduceBEq, reduceCtorEq, al26, fa26_0, ix24, ld3, ld24, ld26, ln24, st26, (bin_bool_eql ub4), (bin_bool_neq ub4), big_eq, bne_self_eq_false, beq_self_eq_true, Bool.not_true, Bool.and_self, cast0, q7.rd 0 rfl, q7.rd 1 rfl, q5.rd 0 rfl, q5.rd 1 rfl, q6.rd 0 rfl, q6.rd 1 rfl]
    try simp -implicitDefEqProofs only [kz, kk0, kk1, kk2, kk3, ↓two_true, ↓two_false, mkv, aggAt, Nat.reduceLeDiff, Nat.reduceSub, Nat.reduceMul, implies_true, Nat.reduceEqDiff, reduceIte, Nat.reduceAdd, Nat.reduceBEq, reduceCtorEq, al26, fa26_0, ix24, ld3, ld24, ld26, ln24, st26, (bin_bool_eql ub4), (bin_bool_neq ub4), big_eq, bne_self_eq_false, beq_self_eq_true, Bool.not_true, Bool.and_self, cast0, q7.rd 0 rfl, q7.rd 1 rfl]
    refine (specOk_ar (q7.ar 2 3 rfl rfl (by (try simp only [List.length_cons, List.length_nil, List.length_append, List.length_replicate, List.length_map, List.length_take, List.length_drop]); omega) (by (try simp only [List.length_cons, List.length_nil, List.length_append, List.length_replicate, List.length_map, List.length_take, List.length_drop]); omega))).mono ?_
    rintro _ H8 ⟨rfl, he3⟩
    have q8 := q7.extd he3
    simp -implicitDefEqProofs only [kz, kk0, kk1, kk2, kk3, ↓two_true, ↓two_false, mkv, aggAt, Nat.reduceLeDiff, Nat.reduceSub, Nat.reduceMul, implies_true, Nat.reduceEqDiff, reduceIte, Nat.reduceAdd, Nat.reduceBEq, reduceCtorEq, al26, fa26_0, ix24, ld3, ld24, ld26, ln24, st26, (bin_bool_eql ub4), (bin_bool_neq ub4), big_eq, bne_self_eq_false, beq_self_eq_true, Bool.not_true, Bool.and_self, cast0, q8.rd 0 rfl, q8.rd 1 rfl]
    refine two_intro (fun u2 => ?_) (fun u2 => ?_)
    ·
      try simp -implicitDefEqProofs only [kz, kk0, kk1, kk2, kk3, ↓two_true, ↓two_false, mkv, aggAt, Nat.reduceLeDiff, Nat.reduceSub, Nat.reduceMul, implies_true, Nat.reduceEqDiff, reduceIte, Nat.reduceAdd, Nat.reduceBEq, reduceCtorEq, al26, fa26_0, ix24, ld3, ld24, ld26, ln24, st26, (bin_bool_eql ub4), (bin_bool_neq ub4), big_eq, bne_self_eq_false, beq_self_eq_true, Bool.not_true, Bool.and_self, cast0, q8.rd 0 rfl, q8.rd 1 rfl]
      -- end2
      all_goals first | rfl | (simp; done)
    ·
      have va : arrOk sa da = true := by simpa using u2
      have lda3 := arrOk_len va
      try simp -implicitDefEqProofs only [kz, kk0, kk1, kk2, kk3, ↓two_true, ↓two_false, mkv, aggAt, Nat.reduceLeDiff, Nat.reduceSub, Nat.reduceMul, implies_true, Nat.reduceEqDiff, reduceIte, Nat.reduceAdd, Nat.reduceBEq, reduceCtorEq, al26, fa26_0, ix24, ld3, ld24, ld26, ln24, st26, (bin_bool_eql ub4), (bin_bool_neq ub4), big_eq, bne_self_eq_false, beq_self_eq_true, Bool.not_true, Bool.and_self, cast0, q8.rd 0 rfl, q8.rd 1 rfl]
      refine two_intro (fun u3 => ?_) (fun u3 => ?_)
      ·
        try simp -implicitDefEqProofs only [kz, kk0, kk1, kk2, kk3, ↓two_true, ↓two_false, mkv, aggAt, Nat.reduceLeDiff, Nat.reduceSub, Nat.reduceMul, implies_true, Nat.reduceEqDiff, reduceIte, Nat.reduceAdd, Nat.reduceBEq, reduceCtorEq, al26, fa26_0, ix24, ld3, ld24, ld26, ln24, st26, (bin_bool_eql ub4), (bin_bool_neq ub4), big_eq, bne_self_eq_false, beq_self_eq_true, Bool.not_true, Bool.and_self, cast0, q8.rd 0 rfl, q8.rd 1 rfl]
        -- end3
        all_goals first | rfl | (simp; done)
      ·
        have hl2 : sa.length = 2 := by have h5 : (sa.length : Int) = 2 := (by simpa using u3); omega
        have hb2 : 1 < sa.length := by omega
        obtain ⟨m, p, eA1, eA2, eA3, hm3, hp3, eA5⟩ := inn_a va (by omega) (by omega)
        have eA4 : sa = [(p : Int), (m : Int)] := by
          rcases eA5 with ⟨e, -⟩ | e
          · rw [e] at hl2; simp at hl2
          · exact e
        have eA6 : sa[1] = (m : Int) := by simp [eA4]
        have wz : IntKind.i64.wrap ((0 : Int) + 0) = 0 := by decide
        obtain ⟨b1, o1, cs1, ei1, fr1, fc1⟩ := ixI (q8.int 2 rfl) (i := 1) hb2
        rw [cast1u] at ei1
        try simp -implicitDefEqProofs only [kz, kk0, kk1, kk2, kk3, ↓two_true, ↓two_false, mkv, aggAt, Nat.reduceLeDiff, Nat.reduceSub, Nat.reduceMul, implies_true, Nat.reduceEqDiff, reduceIte, Nat.reduceAdd, Nat.reduceBEq, reduceCtorEq, al26, fa26_0, ix24, ld3, ld24, ld26, ln24, st26, (bin_bool_eql ub4), (bin_bool_neq ub4), big_eq, bne_self_eq_false, beq_self_eq_true, Bool.not_true, Bool.and_self, cast0, eA6, wz, ei1, fr1, fc1, q8.rd 0 rfl, q8.rd 1 rfl]
        refine two_intro (fun u4 => ?_) (fun u4 => ?_)
        ·
          try simp -implicitDefEqProofs only [kz, kk0, kk1, kk2, kk3, ↓two_true, ↓two_false, mkv, aggAt, Nat.reduceLeDiff, Nat.reduceSub, Nat.reduceMul, implies_true, Nat.reduceEqDiff, reduceIte, Nat.reduceAdd, Nat.reduceBEq, reduceCtorEq, al26, fa26_0, ix24, ld3, ld24, ld26, ln24, st26, (bin_bool_eql ub4), (bin_bool_neq ub4), big_eq, bne_self_eq_false, beq_self_eq_true, Bool.not_true, Bool.and_self, cast0, eA6, wz, ei1, fr1, fc1, q8.rd 0 rfl, q8.rd 1 rfl]
          -- end4
          all_goals first | rfl | (simp; done)
        ·
          have hm6 : m ≤ 6 := by have h5 := of_decide_eq_false u4; omega
          have hmm : m * m ≤ 36 := Nat.mul_le_mul hm6 hm6
          obtain ⟨b2, o2, cs2, ei2, fr2, fc2⟩ := ixI (q8.int 2 rfl) (i := 1) hb2
          rw [cast1u] at ei2
          try simp -implicitDefEqProofs only [kz, kk0, kk1, kk2, kk3, ↓two_true, ↓two_false, mkv, aggAt, Nat.reduceLeDiff, Nat.reduceSub, Nat.reduceMul, implies_true, Nat.reduceEqDiff, reduceIte, Nat.reduceAdd, Nat.reduceBEq, reduceCtorEq, al26, fa26_0, ix24, ld3, ld24, ld26, ln24, st26, (bin_bool_eql ub4), (bin_bool_neq ub4), big_eq, bne_self_eq_false, beq_self_eq_true, Bool.not_true, Bool.and_self, cast0, eA6, wz, ei1, fr1, fc1, ei2, fr2, fc2, q8.rd 0 rfl, q8.rd 1 rfl]
          refine (scalarOf_ok (x := (m : Int)) (numOk_iff.2 (by omega))).mono ?_
          rintro _ H9 ⟨sb1, rfl, g2⟩
          have q9 := q8.join g2
          simp only [List.map_cons, List.map_nil, List.cons_append, List.nil_append] at q9
          simp -implicitDefEqProofs only [kz, kk0, kk1, kk2, kk3, ↓two_true, ↓two_false, mkv, aggAt, Nat.reduceLeDiff, Nat.reduceSub, Nat.reduceMul, implies_true, Nat.reduceEqDiff, reduceIte, Nat.reduceAdd, Nat.reduceBEq, reduceCtorEq, al26, fa26_0, ix24, ld3, ld24, ld26, ln24, st26, (bin_bool_eql ub4), (bin_bool_neq ub4), big_eq, bne_self_eq_false, beq_self_eq_true, Bool.not_true, Bool.and_self, cast0, eA6, wz, q9.rd 1 rfl, q9.rd 2 rfl]
          refine st_box q9 fun H10 q10 => ?_
          simp -implicitDefEqProofs only [kz, kk0, kk1, kk2, kk3, ↓two_true, ↓two_false, mkv, aggAt, Nat.reduceLeDiff, Nat.reduceSub, Nat.reduceMul, implies_true, Nat.reduceEqDiff, reduceIte, Nat.reduceAdd, Nat.reduceBEq, reduceCtorEq, al26, fa26_0, ix24, ld3, ld24, ld26, ln24, st26, (bin_bool_eql ub4), (bin_bool_neq ub4), big_eq, bne_self_eq_false, beq_self_eq_true, Bool.not_true, Bool.and_self, cast0, eA6, wz, q10.rd 0 rfl, q10.rd 2 rfl, q10.rd 3 rfl]
          refine st_set q10 0 rfl fun H11 q11 => ?_
          simp only [List.set_cons_zero, List.set_cons_succ] at q11
          simp -implicitDefEqProofs only [kz, kk0, kk1, kk2, kk3, ↓two_true, ↓two_false, mkv, aggAt, Nat.reduceLeDiff, Nat.reduceSub, Nat.reduceMul, implies_true, Nat.reduceEqDiff, reduceIte, Nat.reduceAdd, Nat.reduceBEq, reduceCtorEq, al26, fa26_0, ix24, ld3, ld24, ld26, ln24, st26, (bin_bool_eql ub4), (bin_bool_neq ub4), big_eq, bne_self_eq_false, beq_self_eq_true, Bool.not_true, Bool.and_self, cast0, eA6, wz, q11.rd 0 rfl, q11.rd 2 rfl, q11.rd 3 rfl]
          have hk1 := implIota_ok (AR.mk (OwnRow.nil.int) (q11.int 1 rfl) (by (try simp only [List.length_cons, List.length_nil, List.length_append, List.length_replicate, List.length_map, List.length_take, List.length_drop]); omega) (by (try simp only [List.length_cons, List.length_nil, List.length_append, List.length_replicate, List.length_map, List.length_take, List.length_drop]); omega))
          rw [iota_one hm6] at hk1
          refine hk1.mono ?_
          rintro _ H12 ⟨p5, p6, rfl, g3⟩
          have q12 := q11.join g3
          simp only [List.map_cons, List.map_nil, List.cons_append, List.nil_append] at q12
          obtain ⟨a5, c5, rfl⟩ := (q12.own 0 rfl).isSlice
          obtain ⟨a6, c6, rfl⟩ := (q12.own 1 rfl).isSlice
          simp -implicitDefEqProofs only [kz, kk0, kk1, kk2, kk3, ↓two_true, ↓two_false, mkv, aggAt, Nat.reduceLeDiff, Nat.reduceSub, Nat.reduceMul, implies_true, Nat.reduceEqDiff, reduceIte, Nat.reduceAdd, Nat.reduceBEq, reduceCtorEq, al26, fa26_0, ix24, ld3, ld24, ld26, ln24, st26, (bin_bool_eql ub4), (bin_bool_neq ub4), big_eq, bne_self_eq_false, beq_self_eq_true, Bool.not_true, Bool.and_self, cast0, eA6, wz, q12.rd 2 rfl, q12.rd 4 rfl, q12.rd 5 rfl]
          refine st_box q12 fun H13 q13 => ?_
          simp -implicitDefEqProofs only [kz, kk0, kk1, kk2, kk3, ↓two_true, ↓two_false, mkv, aggAt, Nat.reduceLeDiff, Nat.reduceSub, Nat.reduceMul, implies_true, Nat.reduceEqDiff, reduceIte, Nat.reduceAdd, Nat.reduceBEq, reduceCtorEq, al26, fa26_0, ix24, ld3, ld24, ld26, ln24, st26, (bin_bool_eql ub4), (bin_bool_neq ub4), big_eq, bne_self_eq_false, beq_self_eq_true, Bool.not_true, Bool.and_self, cast0, eA6, wz, q13.rd 0 rfl, q13.rd 3 rfl, q13.rd 5 rfl, q13.rd 6 rfl]
          refine st_set q13 0 rfl fun H14 q14 => ?_
          simp only [List.set_cons_zero, List.set_cons_succ] at q14
          simp -implicitDefEqProofs only [kz, kk0, kk1, kk2, kk3, ↓two_true, ↓two_false, mkv, aggAt, Nat.reduceLeDiff, Nat.reduceSub, Nat.reduceMul, implies_true, Nat.reduceEqDiff, reduceIte, Nat.reduceAdd, Nat.reduceBEq, reduceCtorEq, al26, fa26_0, ix24, ld3, ld24, ld26, ln24, st26, (bin_bool_eql ub4), (bin_bool_neq ub4), big_eq, bne_self_eq_false, beq_self_eq_true, Bool.not_true, Bool.and_self, cast0, eA6, wz, q14.rd 0 rfl, q14.rd 3 rfl, q14.rd 5 rfl, q14.rd 6 rfl]
          have hk2 := implOuterA_ok (s := 61) (q14.ar 1 2 rfl rfl (by simp) (by rw [iotaL_len]; omega)) (q14.ar 1 2 rfl rfl (by simp) (by rw [iotaL_len]; omega)) 
          rw [(unitU hm6).1] at hk2
          refine hk2.mono ?_
          rintro _ H15 ⟨p7, p8, rfl, g4⟩
          have q15 := q14.join g4
          simp only [List.map_cons, List.map_nil, List.cons_append, List.nil_append] at q15
          obtain ⟨a7, c7, rfl⟩ := (q15.own 0 rfl).isSlice
          obtain ⟨a8, c8, rfl⟩ := (q15.own 1 rfl).isSlice
          simp -implicitDefEqProofs only [kz, kk0, kk1, kk2, kk3, ↓two_true, ↓two_false, mkv, aggAt, Nat.reduceLeDiff, Nat.reduceSub, Nat.reduceMul, implies_true, Nat.reduceEqDiff, reduceIte, Nat.reduceAdd, Nat.reduceBEq, reduceCtorEq, al26, fa26_0, ix24, ld3, ld24, ld26, ln24, st26, (bin_bool_eql ub4), (bin_bool_neq ub4), big_eq, bne_self_eq_false, beq_self_eq_true, Bool.not_true, Bool.and_self, cast0, eA6, wz, q15.rd 2 rfl, q15.rd 5 rfl, q15.rd 7 rfl, q15.rd 8 rfl]
          refine st_box q15 fun H16 q16 => ?_
          simp -implicitDefEqProofs only [kz, kk0, kk1, kk2, kk3, ↓two_true, ↓two_false, mkv, aggAt, Nat.reduceLeDiff, Nat.reduceSub, Nat.reduceMul, implies_true, Nat.reduceEqDiff, reduceIte, Nat.reduceAdd, Nat.reduceBEq, reduceCtorEq, al26, fa26_0, ix24, ld3, ld24, ld26, ln24, st26, (bin_bool_eql ub4), (bin_bool_neq ub4), big_eq, bne_self_eq_false, beq_self_eq_true, Bool.not_true, Bool.and_self, cast0, eA6, wz, q16.rd 0 rfl, q16.rd 3 rfl, q16.rd 6 rfl, q16.rd 8 rfl, q16.rd 9 rfl]
          refine st_set q16 0 rfl fun H17 q17 => ?_
          simp only [List.set_cons_zero, List.set_cons_succ] at q17
          simp -implicitDefEqProofs only [kz, kk0, kk1, kk2, kk3, ↓two_true, ↓two_false, mkv, aggAt, Nat.reduceLeDiff, Nat.reduceSub, Nat.reduceMul, implies_true, Nat.reduceEqDiff, reduceIte, Nat.reduceAdd, Nat.reduceBEq, reduceCtorEq, al26, fa26_0, ix24, ld3, ld24, ld26, ln24, st26, (bin_bool_eql ub4), (bin_bool_neq ub4), big_eq, bne_self_eq_false, beq_self_eq_true, Bool.not_true, Bool.and_self, cast0, eA6, wz, q17.rd 0 rfl, q17.rd 3 rfl, q17.rd 6 rfl, q17.rd 8 rfl, q17.rd 9 rfl]
          have hk3 := implInner_ok (f := 43) (g := 42) (q17.ar 10 11 rfl rfl (by (try simp only [List.length_cons, List.length_nil, List.length_append, List.length_replicate, List.length_map, List.length_take, List.length_drop]); omega) (by (try simp only [List.length_cons, List.length_nil, List.length_append, List.length_replicate, List.length_map, List.length_take, List.length_drop]); omega)) (q17.ar 1 2 rfl rfl (by simp) (by rw [(unitU hm6).2.2.1]; omega)) 
          rw [unit_inner va eA4 eA3 hm6] at hk3
          refine hk3.mono ?_
          rintro _ H18 ⟨p9, p10, rfl, g5⟩
          have q18 := q17.join g5
          simp only [List.map_cons, List.map_nil, List.cons_append, List.nil_append] at q18
          obtain ⟨a9, c9, rfl⟩ := (q18.own 0 rfl).isSlice
          obtain ⟨a10, c10, rfl⟩ := (q18.own 1 rfl).isSlice
          simp -implicitDefEqProofs only [kz, kk0, kk1, kk2, kk3, ↓two_true, ↓two_false, mkv, aggAt, Nat.reduceLeDiff, Nat.reduceSub, Nat.reduceMul, implies_true, Nat.reduceEqDiff, reduceIte, Nat.reduceAdd, Nat.reduceBEq, reduceCtorEq, al26, fa26_0, ix24, ld3, ld24, ld26, ln24, st26, (bin_bool_eql ub4), (bin_bool_neq ub4), big_eq, bne_self_eq_false, beq_self_eq_true, Bool.not_true, Bool.and_self, cast0, eA6, wz, q18.rd 2 rfl, q18.rd 5 rfl, q18.rd 8 rfl, q18.rd 10 rfl, q18.rd 11 rfl]
          refine st_box q18 fun H19 q19 => ?_
          simp -implicitDefEqProofs only [kz, kk0, kk1, kk2, kk3, ↓two_true, ↓two_false, mkv, aggAt, Nat.reduceLeDiff, Nat.reduceSub, Nat.reduceMul, implies_true, Nat.reduceEqDiff, reduceIte, Nat.reduceAdd, Nat.reduceBEq, reduceCtorEq, al26, fa26_0, ix24, ld3, ld24, ld26, ln24, st26, (bin_bool_eql ub4), (bin_bool_neq ub4), big_eq, bne_self_eq_false, beq_self_eq_true, Bool.not_true, Bool.and_self, cast0, eA6, wz, q19.rd 0 rfl, q19.rd 3 rfl, q19.rd 6 rfl, q19.rd 9 rfl, q19.rd 11 rfl, q19.rd 12 rfl]
          refine st_set q19 0 rfl fun H20 q20 => ?_
          simp only [List.set_cons_zero, List.set_cons_succ] at q20
          simp -implicitDefEqProofs only [kz, kk0, kk1, kk2, kk3, ↓two_true, ↓two_false, mkv, aggAt, Nat.reduceLeDiff, Nat.reduceSub, Nat.reduceMul, implies_true, Nat.reduceEqDiff, reduceIte, Nat.reduceAdd, Nat.reduceBEq, reduceCtorEq, al26, fa26_0, ix24, ld3, ld24, ld26, ln24, st26, (bin_bool_eql ub4), (bin_bool_neq ub4), big_eq, bne_self_eq_false, beq_self_eq_true, Bool.not_true, Bool.and_self, cast0, eA6, wz, q20.rd 0 rfl, q20.rd 3 rfl, q20.rd 6 rfl, q20.rd 9 rfl, q20.rd 11 rfl, q20.rd 12 rfl]
          refine (sameArray_ok (q20.ar 13 14 rfl rfl (by (try simp only [List.length_cons, List.length_nil, List.length_append, List.length_replicate, List.length_map, List.length_take, List.length_drop]); omega) (by (try simp only [List.length_cons, List.length_nil, List.length_append, List.length_replicate, List.length_map, List.length_take, List.length_drop]); omega)) (q20.ar 1 2 rfl rfl (by (try simp only [List.length_cons, List.length_nil, List.length_append, List.length_replicate, List.length_map, List.length_take, List.length_drop]); omega) (by (try simp only [List.length_cons, List.length_nil, List.length_append, List.length_replicate, List.length_map, List.length_take, List.length_drop]); omega))).mono ?_
          rintro _ H21 ⟨rfl, he4⟩
          have q21 := q20.extd he4
          simp -implicitDefEqProofs only [kz, kk0, kk1, kk2, kk3, ↓two_true, ↓two_false, mkv, aggAt, Nat.reduceLeDiff, Nat.reduceSub, Nat.reduceMul, implies_true, Nat.reduceEqDiff, reduceIte, Nat.reduceAdd, Nat.reduceBEq, reduceCtorEq, al26, fa26_0, ix24, ld3, ld24, ld26, ln24, st26, (bin_bool_eql ub4), (bin_bool_neq ub4), big_eq, bne_self_eq_false, beq_self_eq_true, Bool.not_true, Bool.and_self, cast0, eA6, wz, q21.rd 0 rfl, q21.rd 3 rfl, q21.rd 6 rfl, q21.rd 9 rfl, q21.rd 11 rfl, q21.rd 12 rfl]
          -- end5
          all_goals first | rfl | (simp; done)

end Go.Proofs.Ytockhdhilemfkaa.AM
