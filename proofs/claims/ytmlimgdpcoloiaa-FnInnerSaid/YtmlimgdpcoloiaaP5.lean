/- What the functions answer, part 5. -/
import Derived.Test.YtmlimgdpcoloiaaP4
set_option linter.unusedVariables false
set_option linter.unusedSimpArgs false
set_option linter.defProp false
set_option maxRecDepth 100000
/- What the functions answer, part 5. -/
namespace Go.Proofs.Ytmlimgdpcoloiaa.AM
open Go Go.Proofs.Ytmlimgdpcoloiaa Go.Proofs
theorem specInner_ok {H : AH} {f g : Int} {pa qa pb qb : Value} {sa da sb db : List Int} (a : AR H pa qa sa da) (b : AR H pb qb sb db) : CallsA Try.prog 19 #[.int .i64 f, .int .i64 g, .agg #[pa, qa], .agg #[pb, qb]] H fun r H' => Ans1 H H' r (innR f g sa da sb db) := by
  have al := a.l1
  have bl := a.l2
  have al2 := b.l1
  have bl2 := b.l2
  obtain ⟨za, zc, zb, zd, rfl, rfl⟩ := a.o1
  obtain ⟨ya, yc, yb, yd, rfl, rfl⟩ := b.o1
  have q := (LX.nil (H := H))
  refine w19 ?_
  unfold k19
  simp -implicitDefEqProofs only [kz, kk0, kk1, kk2, kk3, ↓two_true, ↓two_false, mkv, aggAt, Nat.reduceLeDiff, Nat.reduceSub, Nat.reduceMul, implies_true, Nat.reduceEqDiff, reduceIte, Nat.reduceAdd, Nat.reduceBEq, reduceCtorEq, al26, ap22_22, bd26, bs22_0, bs22_1, fa26_0, fa26_1, ix22, ld3, ld22, ld26, ln22, sn22, sl22, st22, st26, l1In_eq, l1Sign2_eq]
  refine st_box q fun H1 q1 => ?_
  simp -implicitDefEqProofs only [kz, kk0, kk1, kk2, kk3, ↓two_true, ↓two_false, mkv, aggAt, Nat.reduceLeDiff, Nat.reduceSub, Nat.reduceMul, implies_true, Nat.reduceEqDiff, reduceIte, Nat.reduceAdd, Nat.reduceBEq, reduceCtorEq, al26, ap22_22, bd26, bs22_0, bs22_1, fa26_0, fa26_1, ix22, ld3, ld22, ld26, ln22, sn22, sl22, st22, st26, l1In_eq, l1Sign2_eq, q1.rd 0 rfl]
  refine st_box q1 fun H2 q2 => ?_
  simp -implicitDefEqProofs only [kz, kk0, kk1, kk2, kk3, ↓two_true, ↓two_false, mkv, aggAt, Nat.reduceLeDiff, Nat.reduceSub, Nat.reduceMul, implies_true, Nat.reduceEqDiff, reduceIte, Nat.reduceAdd, Nat.reduceBEq, reduceCtorEq, al26, ap22_22, bd26, bs22_0, bs22_1, fa26_0, fa26_1, ix22, ld3, ld22, ld26, ln22, sn22, sl22, st22, st26, l1In_eq, l1Sign2_eq, q2.rd 0 rfl, q2.rd 1 rfl]
  refine st_box q2 fun H3 q3 => ?_
  simp -implicitDefEqProofs only [kz, kk0, kk1, kk2, kk3, ↓two_true, ↓two_false, mkv, aggAt, Nat.reduceLeDiff, Nat.reduceSub, Nat.reduceMul, implies_true, Nat.reduceEqDiff, reduceIte, Nat.reduceAdd, Nat.reduceBEq, reduceCtorEq, al26, ap22_22, bd26, bs22_0, bs22_1, fa26_0, fa26_1, ix22, ld3, ld22, ld26, ln22, sn22, sl22, st22, st26, l1In_eq, l1Sign2_eq, q3.rd 0 rfl, q3.rd 1 rfl, q3.rd 2 rfl]
  refine st_box q3 fun H4 q4 => ?_
  simp -implicitDefEqProofs only [kz, kk0, kk1, kk2, kk3, ↓two_true, ↓two_false, mkv, aggAt, Nat.reduceLeDiff, Nat.reduceSub, Nat.reduceMul, implies_true, Nat.reduceEqDiff, reduceIte, Nat.reduceAdd, Nat.reduceBEq, reduceCtorEq, al26, ap22_22, bd26, bs22_0, bs22_1, fa26_0, fa26_1, ix22, ld3, ld22, ld26, ln22, sn22, sl22, st22, st26, l1In_eq, l1Sign2_eq, q4.rd 0 rfl, q4.rd 1 rfl, q4.rd 2 rfl, q4.rd 3 rfl]
  refine st_set q4 0 rfl fun H5 q5 => ?_
  simp only [List.set_cons_zero, List.set_cons_succ] at q5
  simp -implicitDefEqProofs only [kz, kk0, kk1, kk2, kk3, ↓two_true, ↓two_false, mkv, aggAt, Nat.reduceLeDiff, Nat.reduceSub, Nat.reduceMul, implies_true, Nat.reduceEqDiff, reduceIte, Nat.reduceAdd, Nat.reduceBEq, reduceCtorEq, al26, ap22_22, bd26, bs22_0, bs22_1, fa26_0, fa26_1, ix22, ld3, ld22, ld26, ln22, sn22, sl22, st22, st26, l1In_eq, l1Sign2_eq, q5.rd 0 rfl, q5.rd 1 rfl, q5.rd 2 rfl, q5.rd 3 rfl]
  refine (specOk_ar (a.ext q5.ext)).mono ?_
  rintro _ H6 ⟨rfl, he1⟩
  have q6 := q5.extd he1
  simp -implicitDefEqProofs only [kz, kk0, kk1, kk2, kk3, ↓two_true, ↓two_false, mkv, aggAt, Nat.reduceLeDiff, Nat.reduceSub, Nat.reduceMul, implies_true, Nat.reduceEqDiff, reduceIte, Nat.reduceAdd, Nat.reduceBEq, reduceCtorEq, al26, ap22_22, bd26, bs22_0, bs22_1, fa26_0, fa26_1, ix22, ld3, ld22, ld26, ln22, sn22, sl22, st22, st26, l1In_eq, l1Sign2_eq, q6.rd 0 rfl, q6.rd 1 rfl, q6.rd 2 rfl, q6.rd 3 rfl]
  refine two_intro (fun u1 => ?_) (fun u1 => ?_)
  ·
    have w1 : arrOk sa da = false := by simpa using u1
    try simp -implicitDefEqProofs only [kz, kk0, kk1, kk2, kk3, ↓two_true, ↓two_false, mkv, aggAt, Nat.reduceLeDiff, Nat.reduceSub, Nat.reduceMul, implies_true, Nat.reduceEqDiff, reduceIte, Nat.reduceAdd, Nat.reduceBEq, reduceCtorEq, al26, ap22_22, bd26, bs22_0, bs22_1, fa26_0, fa26_1, ix22, ld3, ld22, ld26, ln22, sn22, sl22, st22, st26, l1In_eq, l1Sign2_eq, q6.rd 0 rfl, q6.rd 1 rfl, q6.rd 2 rfl, q6.rd 3 rfl]
    refine st_set q6 1 rfl fun H7 q7 => ?_
    simp only [List.set_cons_zero, List.set_cons_succ] at q7
    simp -implicitDefEqProofs only [kz, kk0, kk1, kk2, kk3, ↓two_true, ↓two_false, mkv, aggAt, Nat.reduceLeDiff, Nat.reduceSub, Nat.reduceMul, implies_true, Nat.reduceEqDiff, reduceIte, Nat.reduceAdd, Nat.reduceBEq, reduceCtorEq, al26, ap22_22, bd26, bs22_0, bs22_1, fa26_0, fa26_1, ix22, ld3, ld22, ld26, ln22, sn22, sl22, st22, st26, l1In_eq, l1Sign2_eq, q7.rd 0 rfl, q7.rd 1 rfl, q7.rd 2 rfl, q7.rd 3 rfl]
    -- end1
    exact q7.err (by unfold innR; rw [show (arrOk sa da && arrOk sb db && sg2 f && sg2 g) = false by simp [w1]]; rfl)
  ·
    have v1 : arrOk sa da = true := by simpa using u1
    try simp -implicitDefEqProofs only [kz, kk0, kk1, kk2, kk3, ↓two_true, ↓two_false, mkv, aggAt, Nat.reduceLeDiff, Nat.reduceSub, Nat.reduceMul, implies_true, Nat.reduceEqDiff, reduceIte, Nat.reduceAdd, Nat.reduceBEq, reduceCtorEq, al26, ap22_22, bd26, bs22_0, bs22_1, fa26_0, fa26_1, ix22, ld3, ld22, ld26, ln22, sn22, sl22, st22, st26, l1In_eq, l1Sign2_eq, q6.rd 0 rfl, q6.rd 1 rfl, q6.rd 2 rfl, q6.rd 3 rfl]
    refine (specOk_ar (b.ext q6.ext)).mono ?_
    rintro _ H8 ⟨rfl, he2⟩
    have q8 := q6.extd he2
    simp -implicitDefEqProofs only [kz, kk0, kk1, kk2, kk3, ↓two_true, ↓two_false, mkv, aggAt, Nat.reduceLeDiff, Nat.reduceSub, Nat.reduceMul, implies_true, Nat.reduceEqDiff, reduceIte, Nat.reduceAdd, Nat.reduceBEq, reduceCtorEq, al26, ap22_22, bd26, bs22_0, bs22_1, fa26_0, fa26_1, ix22, ld3, ld22, ld26, ln22, sn22, sl22, st22, st26, l1In_eq, l1Sign2_eq, q8.rd 0 rfl, q8.rd 1 rfl, q8.rd 2 rfl, q8.rd 3 rfl]
    refine two_intro (fun u2 => ?_) (fun u2 => ?_)
    ·
      have w1 : arrOk sb db = false := by simpa using u2
      try simp -implicitDefEqProofs only [kz, kk0, kk1, kk2, kk3, ↓two_true, ↓two_false, mkv, aggAt, Nat.reduceLeDiff, Nat.reduceSub, Nat.reduceMul, implies_true, Nat.reduceEqDiff, reduceIte, Nat.reduceAdd, Nat.reduceBEq, reduceCtorEq, al26, ap22_22, bd26, bs22_0, bs22_1, fa26_0, fa26_1, ix22, ld3, ld22, ld26, ln22, sn22, sl22, st22, st26, l1In_eq, l1Sign2_eq, q8.rd 0 rfl, q8.rd 1 rfl, q8.rd 2 rfl, q8.rd 3 rfl]
      refine st_set q8 1 rfl fun H9 q9 => ?_
      simp only [List.set_cons_zero, List.set_cons_succ] at q9
      simp -implicitDefEqProofs only [kz, kk0, kk1, kk2, kk3, ↓two_true, ↓two_false, mkv, aggAt, Nat.reduceLeDiff, Nat.reduceSub, Nat.reduceMul, implies_true, Nat.reduceEqDiff, reduceIte, Nat.reduceAdd, Nat.reduceBEq, reduceCtorEq, al26, ap22_22, bd26, bs22_0, bs22_1, fa26_0, fa26_1, ix22, ld3, ld22, ld26, ln22, sn22, sl22, st22, st26, l1In_eq, l1Sign2_eq, q9.rd 0 rfl, q9.rd 1 rfl, q9.rd 2 rfl, q9.rd 3 rfl]
      -- end2
      exact q9.err (by unfold innR; rw [show (arrOk sa da && arrOk sb db && sg2 f && sg2 g) = false by simp [w1]]; rfl)
    ·
      have v2 : arrOk sb db = true := by simpa using u2
      try simp -implicitDefEqProofs only [kz, kk0, kk1, kk2, kk3, ↓two_true, ↓two_false, mkv, aggAt, Nat.reduceLeDiff, Nat.reduceSub, Nat.reduceMul, implies_true, Nat.reduceEqDiff, reduceIte, Nat.reduceAdd, Nat.reduceBEq, reduceCtorEq, al26, ap22_22, bd26, bs22_0, bs22_1, fa26_0, fa26_1, ix22, ld3, ld22, ld26, ln22, sn22, sl22, st22, st26, l1In_eq, l1Sign2_eq, q8.rd 0 rfl, q8.rd 1 rfl, q8.rd 2 rfl, q8.rd 3 rfl]
      refine two_intro (fun u3 => ?_) (fun u3 => ?_)
      ·
        have w1 : sg2 f = false := by simpa using u3
        try simp -implicitDefEqProofs only [kz, kk0, kk1, kk2, kk3, ↓two_true, ↓two_false, mkv, aggAt, Nat.reduceLeDiff, Nat.reduceSub, Nat.reduceMul, implies_true, Nat.reduceEqDiff, reduceIte, Nat.reduceAdd, Nat.reduceBEq, reduceCtorEq, al26, ap22_22, bd26, bs22_0, bs22_1, fa26_0, fa26_1, ix22, ld3, ld22, ld26, ln22, sn22, sl22, st22, st26, l1In_eq, l1Sign2_eq, q8.rd 0 rfl, q8.rd 1 rfl, q8.rd 2 rfl, q8.rd 3 rfl]
        refine st_set q8 1 rfl fun H10 q10 => ?_
        simp only [List.set_cons_zero, List.set_cons_succ] at q10
        simp -implicitDefEqProofs only [kz, kk0, kk1, kk2, kk3, ↓two_true, ↓two_false, mkv, aggAt, Nat.reduceLeDiff, Nat.reduceSub, Nat.reduceMul, implies_true, Nat.reduceEqDiff, reduceIte, Nat.reduceAdd, Nat.reduceBEq, reduceCtorEq, al26, ap22_22, bd26, bs22_0, bs22_1, fa26_0, fa26_1, ix22, ld3, ld22, ld26, ln22, sn22, sl22, st22, st26, l1In_eq, l1Sign2_eq, q10.rd 0 rfl, q10.rd 1 rfl, q10.rd 2 rfl, q10.rd 3 rfl]
        -- end3
        exact q10.err (by unfold innR; rw [show (arrOk sa da && arrOk sb db && sg2 f && sg2 g) = false by simp [w1]]; rfl)
      ·
        have v3 : sg2 f = true := by simpa using u3
        try simp -implicitDefEqProofs only [kz, kk0, kk1, kk2, kk3, ↓two_true, ↓two_false, mkv, aggAt, Nat.reduceLeDiff, Nat.reduceSub, Nat.reduceMul, implies_true, Nat.reduceEqDiff, reduceIte, Nat.reduceAdd, Nat.reduceBEq, reduceCtorEq, al26, ap22_22, bd26, bs22_0, bs22_1, fa26_0, fa26_1, ix22, ld3, ld22, ld26, ln22, sn22, sl22, st22, st26, l1In_eq, l1Sign2_eq, q8.rd 0 rfl, q8.rd 1 rfl, q8.rd 2 rfl, q8.rd 3 rfl]
        refine two_intro (fun u4 => ?_) (fun u4 => ?_)
        ·
          have w1 : sg2 g = false := by simpa using u4
          try simp -implicitDefEqProofs only [kz, kk0, kk1, kk2, kk3, ↓two_true, ↓two_false, mkv, aggAt, Nat.reduceLeDiff, Nat.reduceSub, Nat.reduceMul, implies_true, Nat.reduceEqDiff, reduceIte, Nat.reduceAdd, Nat.reduceBEq, reduceCtorEq, al26, ap22_22, bd26, bs22_0, bs22_1, fa26_0, fa26_1, ix22, ld3, ld22, ld26, ln22, sn22, sl22, st22, st26, l1In_eq, l1Sign2_eq, q8.rd 0 rfl, q8.rd 1 rfl, q8.rd 2 rfl, q8.rd 3 rfl]
          refine st_set q8 1 rfl fun H11 q11 => ?_
          simp only [List.set_cons_zero, List.set_cons_succ] at q11
          simp -implicitDefEqProofs only [kz, kk0, kk1, kk2, kk3, ↓two_true, ↓two_false, mkv, aggAt, Nat.reduceLeDiff, Nat.reduceSub, Nat.reduceMul, implies_true, Nat.reduceEqDiff, reduceIte, Nat.reduceAdd, Nat.reduceBEq, reduceCtorEq, al26, ap22_22, bd26, bs22_0, bs22_1, fa26_0, fa26_1, ix22, ld3, ld22, ld26, ln22, sn22, sl22, st22, st26, l1In_eq, l1Sign2_eq, q11.rd 0 rfl, q11.rd 1 rfl, q11.rd 2 rfl, q11.rd 3 rfl]
          -- end4
          exact q11.err (by unfold innR; rw [show (arrOk sa da && arrOk sb db && sg2 f && sg2 g) = false by simp [w1]]; rfl)
        ·
          have v4 : sg2 g = true := by simpa using u4
          try simp -implicitDefEqProofs only [kz, kk0, kk1, kk2, kk3, ↓two_true, ↓two_false, mkv, aggAt, Nat.reduceLeDiff, Nat.reduceSub, Nat.reduceMul, implies_true, Nat.reduceEqDiff, reduceIte, Nat.reduceAdd, Nat.reduceBEq, reduceCtorEq, al26, ap22_22, bd26, bs22_0, bs22_1, fa26_0, fa26_1, ix22, ld3, ld22, ld26, ln22, sn22, sl22, st22, st26, l1In_eq, l1Sign2_eq, q8.rd 0 rfl, q8.rd 1 rfl, q8.rd 2 rfl, q8.rd 3 rfl]
          refine two_intro (fun u5 => ?_) (fun u5 => ?_)
          ·
            try simp -implicitDefEqProofs only [kz, kk0, kk1, kk2, kk3, ↓two_true, ↓two_false, mkv, aggAt, Nat.reduceLeDiff, Nat.reduceSub, Nat.reduceMul, implies_true, Nat.reduceEqDiff, reduceIte, Nat.reduceAdd, Nat.reduceBEq, reduceCtorEq, al26, ap22_22, bd26, bs22_0, bs22_1, fa26_0, fa26_1, ix22, ld3, ld22, ld26, ln22, sn22, sl22, st22, st26, l1In_eq, l1Sign2_eq, q8.rd 0 rfl, q8.rd 1 rfl, q8.rd 2 rfl, q8.rd 3 rfl]
            refine st_set q8 1 rfl fun H12 q12 => ?_
            simp only [List.set_cons_zero, List.set_cons_succ] at q12
            simp -implicitDefEqProofs only [kz, kk0, kk1, kk2, kk3, ↓two_true, ↓two_false, mkv, aggAt, Nat.reduceLeDiff, Nat.reduceSub, Nat.reduceMul, implies_true, Nat.reduceEqDiff, reduceIte, Nat.reduceAdd, Nat.reduceBEq, reduceCtorEq, al26, ap22_22, bd26, bs22_0, bs22_1, fa26_0, fa26_1, ix22, ld3, ld22, ld26, ln22, sn22, sl22, st22, st26, l1In_eq, l1Sign2_eq, q12.rd 0 rfl, q12.rd 1 rfl, q12.rd 2 rfl, q12.rd 3 rfl]
            -- end5
            exact q12.err (by unfold innR; rw [show (arrOk sa da && arrOk sb db && sg2 f && sg2 g) = true by rw [v1, v2, v3, v4]; rfl, if_pos rfl, if_pos (fun h => by have h5 : ¬ inB (sa.length : Int) 1 2 = true := (by simpa using u5); exact h5 (inB_true.2 (by omega)))])
          ·
            have v5 : 1 ≤ sa.length ∧ sa.length ≤ 2 := by have h5 := inB_true.1 (by simpa using u5 : inB (sa.length : Int) 1 2 = true); omega
            try simp -implicitDefEqProofs only [kz, kk0, kk1, kk2, kk3, ↓two_true, ↓two_false, mkv, aggAt, Nat.reduceLeDiff, Nat.reduceSub, Nat.reduceMul, implies_true, Nat.reduceEqDiff, reduceIte, Nat.reduceAdd, Nat.reduceBEq, reduceCtorEq, al26, ap22_22, bd26, bs22_0, bs22_1, fa26_0, fa26_1, ix22, ld3, ld22, ld26, ln22, sn22, sl22, st22, st26, l1In_eq, l1Sign2_eq, q8.rd 0 rfl, q8.rd 1 rfl, q8.rd 2 rfl, q8.rd 3 rfl]
            refine two_intro (fun u6 => ?_) (fun u6 => ?_)
            ·
              try simp -implicitDefEqProofs only [kz, kk0, kk1, kk2, kk3, ↓two_true, ↓two_false, mkv, aggAt, Nat.reduceLeDiff, Nat.reduceSub, Nat.reduceMul, implies_true, Nat.reduceEqDiff, reduceIte, Nat.reduceAdd, Nat.reduceBEq, reduceCtorEq, al26, ap22_22, bd26, bs22_0, bs22_1, fa26_0, fa26_1, ix22, ld3, ld22, ld26, ln22, sn22, sl22, st22, st26, l1In_eq, l1Sign2_eq, q8.rd 0 rfl, q8.rd 1 rfl, q8.rd 2 rfl, q8.rd 3 rfl]
              refine st_set q8 1 rfl fun H13 q13 => ?_
              simp only [List.set_cons_zero, List.set_cons_succ] at q13
              simp -implicitDefEqProofs only [kz, kk0, kk1, kk2, kk3, ↓two_true, ↓two_false, mkv, aggAt, Nat.reduceLeDiff, Nat.reduceSub, Nat.reduceMul, implies_true, Nat.reduceEqDiff, reduceIte, Nat.reduceAdd, Nat.reduceBEq, reduceCtorEq, al26, ap22_22, bd26, bs22_0, bs22_1, fa26_0, fa26_1, ix22, ld3, ld22, ld26, ln22, sn22, sl22, st22, st26, l1In_eq, l1Sign2_eq, q13.rd 0 rfl, q13.rd 1 rfl, q13.rd 2 rfl, q13.rd 3 rfl]
              -- end6
              exact q13.err (by unfold innR; rw [show (arrOk sa da && arrOk sb db && sg2 f && sg2 g) = true by rw [v1, v2, v3, v4]; rfl, if_pos rfl, if_pos (fun h => by have h5 : ¬ inB (sb.length : Int) 1 2 = true := (by simpa using u6); exact h5 (inB_true.2 (by omega)))])
            ·
              have v6 : 1 ≤ sb.length ∧ sb.length ≤ 2 := by have h5 := inB_true.1 (by simpa using u6 : inB (sb.length : Int) 1 2 = true); omega
              have hra : 1 ≤ sa.length ∧ sa.length ≤ 2 ∧ 1 ≤ sb.length ∧ sb.length ≤ 2 := ⟨v5.1, v5.2, v6.1, v6.2⟩
              obtain ⟨m, p, eA1, eA2, eA3, hm3, hp3, eA4⟩ := inn_a v1 v5.1 v5.2
              obtain ⟨n, r, eB1, eB2, eB3, hn3, hr3, eB4⟩ := inn_b v2 v6.1 v6.2
              have hda3 := arrOk_len v1
              have hdb3 := arrOk_len v2
              have hla : sa.length - 1 < sa.length := by omega
              have hlb : 0 < sb.length := by omega
              have eA5 : sa[sa.length - 1] = (m : Int) := by rw [← eA1, getD_lt hla]
              have eB5 : sb[0] = (n : Int) := by rw [← eB1, headD_get hlb]
              have wl : IntKind.i64.wrap ((sa.length : Int) - 1) = ((sa.length - 1 : Nat) : Int) := by rw [IntWalk.i64_in _ (by omega)]; omega
              obtain ⟨b1, o1, cs1, ei1, fr1, fc1⟩ := ixI0 (b.os.ext q8.ext) (List.getElem?_eq_getElem hlb)
              obtain ⟨b2, o2, cs2, ei2, fr2, fc2⟩ := ixI (a.os.ext q8.ext) (i := sa.length - 1) hla
              try simp -implicitDefEqProofs only [kz, kk0, kk1, kk2, kk3, ↓two_true, ↓two_false, mkv, aggAt, Nat.reduceLeDiff, Nat.reduceSub, Nat.reduceMul, implies_true, Nat.reduceEqDiff, reduceIte, Nat.reduceAdd, Nat.reduceBEq, reduceCtorEq, al26, ap22_22, bd26, bs22_0, bs22_1, fa26_0, fa26_1, ix22, ld3, ld22, ld26, ln22, sn22, sl22, st22, st26, l1In_eq, l1Sign2_eq, wl, eA5, eB5, ei1, fr1, fc1, ei2, fr2, fc2, q8.rd 0 rfl, q8.rd 1 rfl, q8.rd 2 rfl, q8.rd 3 rfl]
              refine two_intro (fun u7 => ?_) (fun u7 => ?_)
              ·
                have hmn : m ≠ n := by have h5 : ¬ (m : Int) = (n : Int) := (by simpa using u7); omega
                try simp -implicitDefEqProofs only [kz, kk0, kk1, kk2, kk3, ↓two_true, ↓two_false, mkv, aggAt, Nat.reduceLeDiff, Nat.reduceSub, Nat.reduceMul, implies_true, Nat.reduceEqDiff, reduceIte, Nat.reduceAdd, Nat.reduceBEq, reduceCtorEq, al26, ap22_22, bd26, bs22_0, bs22_1, fa26_0, fa26_1, ix22, ld3, ld22, ld26, ln22, sn22, sl22, st22, st26, l1In_eq, l1Sign2_eq, wl, eA5, eB5, ei1, fr1, fc1, ei2, fr2, fc2, q8.rd 0 rfl, q8.rd 1 rfl, q8.rd 2 rfl, q8.rd 3 rfl]
                refine st_set q8 1 rfl fun H14 q14 => ?_
                simp only [List.set_cons_zero, List.set_cons_succ] at q14
                simp -implicitDefEqProofs only [kz, kk0, kk1, kk2, kk3, ↓two_true, ↓two_false, mkv, aggAt, Nat.reduceLeDiff, Nat.reduceSub, Nat.reduceMul, implies_true, Nat.reduceEqDiff, reduceIte, Nat.reduceAdd, Nat.reduceBEq, reduceCtorEq, al26, ap22_22, bd26, bs22_0, bs22_1, fa26_0, fa26_1, ix22, ld3, ld22, ld26, ln22, sn22, sl22, st22, st26, l1In_eq, l1Sign2_eq, wl, eA5, eB5, q14.rd 0 rfl, q14.rd 1 rfl, q14.rd 2 rfl, q14.rd 3 rfl]
                -- end7
                exact q14.err (by unfold innR; rw [show (arrOk sa da && arrOk sb db && sg2 f && sg2 g) = true by rw [v1, v2, v3, v4]; rfl, if_pos rfl, if_neg (fun h => h hra), if_pos (by rw [eA1, eB1]; omega)])
              ·
                have hmn : m = n := by have h5 : (m : Int) = (n : Int) := (by simpa using u7); omega
                subst hmn
                try simp -implicitDefEqProofs only [kz, kk0, kk1, kk2, kk3, ↓two_true, ↓two_false, mkv, aggAt, Nat.reduceLeDiff, Nat.reduceSub, Nat.reduceMul, implies_true, Nat.reduceEqDiff, reduceIte, Nat.reduceAdd, Nat.reduceBEq, reduceCtorEq, al26, ap22_22, bd26, bs22_0, bs22_1, fa26_0, fa26_1, ix22, ld3, ld22, ld26, ln22, sn22, sl22, st22, st26, l1In_eq, l1Sign2_eq, wl, eA5, eB5, ei1, fr1, fc1, ei2, fr2, fc2, q8.rd 0 rfl, q8.rd 1 rfl, q8.rd 2 rfl, q8.rd 3 rfl]
                refine st_lit [] rfl rfl q8 fun H15 q15 => ?_
                obtain ⟨a1, c1, ev1, hv1, -⟩ := IntRow.sl (P := Try.prog) (t := 22) (e := 3) (lo := none) (hi := (some (.int .i64 ((sa.length - 1 : Nat) : Int)))) (x := 0) (y := (sa.length - 1)) Try.underlying22 (by kernel_rfl) a.os rfl rfl (Nat.zero_le _) (by omega)
                rw [Nat.sub_zero, List.drop_zero] at hv1
                rw [Nat.sub_zero] at ev1
                simp -implicitDefEqProofs only [kz, kk0, kk1, kk2, kk3, ↓two_true, ↓two_false, mkv, aggAt, Nat.reduceLeDiff, Nat.reduceSub, Nat.reduceMul, implies_true, Nat.reduceEqDiff, reduceIte, Nat.reduceAdd, Nat.reduceBEq, reduceCtorEq, al26, ap22_22, bd26, bs22_0, bs22_1, fa26_0, fa26_1, ix22, ld3, ld22, ld26, ln22, sn22, sl22, st22, st26, l1In_eq, l1Sign2_eq, wl, eA5, eB5, ev1, q15.rd 1 rfl, q15.rd 2 rfl, q15.rd 3 rfl, q15.rd 4 rfl, q8.rd 0 rfl, q8.rd 1 rfl, q8.rd 2 rfl, q8.rd 3 rfl]
                refine st_app q15 0 rfl (hv1.ext q15.ext) (by simp; omega) fun a2 c2 H16 q16 => ?_
                simp only [List.set_cons_zero, List.set_cons_succ, List.length_nil, List.length_cons, Nat.zero_add, List.nil_append] at q16 ⊢
                obtain ⟨a3, c3, ev2, hv2⟩ := IntRow.tl b.os (by omega)
                simp -implicitDefEqProofs only [kz, kk0, kk1, kk2, kk3, ↓two_true, ↓two_false, mkv, aggAt, Nat.reduceLeDiff, Nat.reduceSub, Nat.reduceMul, implies_true, Nat.reduceEqDiff, reduceIte, Nat.reduceAdd, Nat.reduceBEq, reduceCtorEq, al26, ap22_22, bd26, bs22_0, bs22_1, fa26_0, fa26_1, ix22, ld3, ld22, ld26, ln22, sn22, sl22, st22, st26, l1In_eq, l1Sign2_eq, wl, eA5, eB5, ev1, ev2, q16.rd 1 rfl, q16.rd 2 rfl, q16.rd 3 rfl, q16.rd 4 rfl, q8.rd 0 rfl, q8.rd 1 rfl, q8.rd 2 rfl, q8.rd 3 rfl, q15.rd 1 rfl, q15.rd 2 rfl, q15.rd 3 rfl, q15.rd 4 rfl]
                refine st_app q16 0 rfl (hv2.ext q16.ext) (by simp; omega) fun a4 c4 H17 q17 => ?_
                simp only [List.set_cons_zero, List.set_cons_succ, List.length_nil, List.length_cons, Nat.zero_add, List.nil_append] at q17 ⊢
                simp -implicitDefEqProofs only [kz, kk0, kk1, kk2, kk3, ↓two_true, ↓two_false, mkv, aggAt, Nat.reduceLeDiff, Nat.reduceSub, Nat.reduceMul, implies_true, Nat.reduceEqDiff, reduceIte, Nat.reduceAdd, Nat.reduceBEq, reduceCtorEq, al26, ap22_22, bd26, bs22_0, bs22_1, fa26_0, fa26_1, ix22, ld3, ld22, ld26, ln22, sn22, sl22, st22, st26, l1In_eq, l1Sign2_eq, wl, eA5, eB5, ev1, ev2, q17.rd 1 rfl, q17.rd 2 rfl, q17.rd 3 rfl, q17.rd 4 rfl, q8.rd 0 rfl, q8.rd 1 rfl, q8.rd 2 rfl, q8.rd 3 rfl, q15.rd 1 rfl, q15.rd 2 rfl, q15.rd 3 rfl, q15.rd 4 rfl, q16.rd 1 rfl, q16.rd 2 rfl, q16.rd 3 rfl, q16.rd 4 rfl]
                try simp -implicitDefEqProofs only [kz, kk0, kk1, kk2, kk3, ↓two_true, ↓two_false, mkv, aggAt, Nat.reduceLeDiff, Nat.reduceSub, Nat.reduceMul, implies_true, Nat.reduceEqDiff, reduceIte, Nat.reduceAdd, Nat.reduceBEq, reduceCtorEq, al26, ap22_22, bd26, bs22_0, bs22_1, fa26_0, fa26_1, ix22, ld3, ld22, ld26, ln22, sn22, sl22, st22, st26, l1In_eq, l1Sign2_eq, wl, eA5, eB5, ev1, ev2, q17.rd 1 rfl, q17.rd 2 rfl, q17.rd 3 rfl, q17.rd 4 rfl, q8.rd 0 rfl, q8.rd 1 rfl, q8.rd 2 rfl, q8.rd 3 rfl, q15.rd 1 rfl, q15.rd 2 rfl, q15.rd 3 rfl, q15.rd 4 rfl, q16.rd 1 rfl, q16.rd 2 rfl, q16.rd 3 rfl, q16.rd 4 rfl]
                refine st_box q17 fun H18 q18 => ?_
                simp -implicitDefEqProofs only [kz, kk0, kk1, kk2, kk3, ↓two_true, ↓two_false, mkv, aggAt, Nat.reduceLeDiff, Nat.reduceSub, Nat.reduceMul, implies_true, Nat.reduceEqDiff, reduceIte, Nat.reduceAdd, Nat.reduceBEq, reduceCtorEq, al26, ap22_22, bd26, bs22_0, bs22_1, fa26_0, fa26_1, ix22, ld3, ld22, ld26, ln22, sn22, sl22, st22, st26, l1In_eq, l1Sign2_eq, wl, eA5, eB5, ev1, ev2, q18.rd 0 rfl, q18.rd 2 rfl, q18.rd 3 rfl, q18.rd 4 rfl, q18.rd 5 rfl, q8.rd 0 rfl, q8.rd 1 rfl, q8.rd 2 rfl, q8.rd 3 rfl, q15.rd 1 rfl, q15.rd 2 rfl, q15.rd 3 rfl, q15.rd 4 rfl, q16.rd 1 rfl, q16.rd 2 rfl, q16.rd 3 rfl, q16.rd 4 rfl, q17.rd 1 rfl, q17.rd 2 rfl, q17.rd 3 rfl, q17.rd 4 rfl]
                refine st_set q18 0 rfl fun H19 q19 => ?_
                simp only [List.set_cons_zero, List.set_cons_succ] at q19
                simp -implicitDefEqProofs only [kz, kk0, kk1, kk2, kk3, ↓two_true, ↓two_false, mkv, aggAt, Nat.reduceLeDiff, Nat.reduceSub, Nat.reduceMul, implies_true, Nat.reduceEqDiff, reduceIte, Nat.reduceAdd, Nat.reduceBEq, reduceCtorEq, al26, ap22_22, bd26, bs22_0, bs22_1, fa26_0, fa26_1, ix22, ld3, ld22, ld26, ln22, sn22, sl22, st22, st26, l1In_eq, l1Sign2_eq, wl, eA5, eB5, ev1, ev2, q19.rd 0 rfl, q19.rd 2 rfl, q19.rd 3 rfl, q19.rd 4 rfl, q19.rd 5 rfl, q8.rd 0 rfl, q8.rd 1 rfl, q8.rd 2 rfl, q8.rd 3 rfl, q15.rd 1 rfl, q15.rd 2 rfl, q15.rd 3 rfl, q15.rd 4 rfl, q16.rd 1 rfl, q16.rd 2 rfl, q16.rd 3 rfl, q16.rd 4 rfl, q17.rd 1 rfl, q17.rd 2 rfl, q17.rd 3 rfl, q17.rd 4 rfl, q18.rd 0 rfl, q18.rd 2 rfl, q18.rd 3 rfl, q18.rd 4 rfl, q18.rd 5 rfl]
                have es1 := fun Φ => (specShapeOk_ok (l := innS sa sb) (q19.int 1 rfl) (by have : (innS sa sb).length ≤ sa.length + sb.length := (by simp [innS]; omega); omega)).eq0 (Φ := Φ)
                try simp -implicitDefEqProofs only [kz, kk0, kk1, kk2, kk3, ↓two_true, ↓two_false, mkv, aggAt, Nat.reduceLeDiff, Nat.reduceSub, Nat.reduceMul, implies_true, Nat.reduceEqDiff, reduceIte, Nat.reduceAdd, Nat.reduceBEq, reduceCtorEq, al26, ap22_22, bd26, bs22_0, bs22_1, fa26_0, fa26_1, ix22, ld3, ld22, ld26, ln22, sn22, sl22, st22, st26, l1In_eq, l1Sign2_eq, wl, eA5, eB5, ev1, ev2, es1, q19.rd 0 rfl, q19.rd 2 rfl, q19.rd 3 rfl, q19.rd 4 rfl, q19.rd 5 rfl]
                refine two_intro (fun u8 => ?_) (fun u8 => ?_)
                ·
                  have hsz : ¬ 0 ≤ sizeI (innS sa sb) := by simpa using u8
                  try simp -implicitDefEqProofs only [kz, kk0, kk1, kk2, kk3, ↓two_true, ↓two_false, mkv, aggAt, Nat.reduceLeDiff, Nat.reduceSub, Nat.reduceMul, implies_true, Nat.reduceEqDiff, reduceIte, Nat.reduceAdd, Nat.reduceBEq, reduceCtorEq, al26, ap22_22, bd26, bs22_0, bs22_1, fa26_0, fa26_1, ix22, ld3, ld22, ld26, ln22, sn22, sl22, st22, st26, l1In_eq, l1Sign2_eq, wl, eA5, eB5, ev1, ev2, es1, q19.rd 0 rfl, q19.rd 2 rfl, q19.rd 3 rfl, q19.rd 4 rfl, q19.rd 5 rfl]
                  refine st_set q19 3 rfl fun H20 q20 => ?_
                  simp only [List.set_cons_zero, List.set_cons_succ] at q20
                  simp -implicitDefEqProofs only [kz, kk0, kk1, kk2, kk3, ↓two_true, ↓two_false, mkv, aggAt, Nat.reduceLeDiff, Nat.reduceSub, Nat.reduceMul, implies_true, Nat.reduceEqDiff, reduceIte, Nat.reduceAdd, Nat.reduceBEq, reduceCtorEq, al26, ap22_22, bd26, bs22_0, bs22_1, fa26_0, fa26_1, ix22, ld3, ld22, ld26, ln22, sn22, sl22, st22, st26, l1In_eq, l1Sign2_eq, wl, eA5, eB5, ev1, ev2, es1, q20.rd 0 rfl, q20.rd 2 rfl, q20.rd 3 rfl, q20.rd 4 rfl, q20.rd 5 rfl]
                  -- end8
                  exact q20.err (by unfold innR; rw [show (arrOk sa da && arrOk sb db && sg2 f && sg2 g) = true by rw [v1, v2, v3, v4]; rfl, if_pos rfl, if_neg (fun h => h hra), if_neg (by rw [eA1, eB1]; omega), if_pos (by omega)])
                ·
                  have hsz : 0 ≤ sizeI (innS sa sb) := by simpa using u8
                  obtain ⟨hs1, hs2⟩ := inn_s eA4 eB4 hsz
                  have eS : sizeI (innS sa sb) = ((p * r : Nat) : Int) := by omega
                  have es2 := fun Φ => (specSizeOf_ok (hv2.ext q19.ext) (by simp; omega)).eq0 (Φ := Φ)
                  try simp -implicitDefEqProofs only [kz, kk0, kk1, kk2, kk3, ↓two_true, ↓two_false, mkv, aggAt, Nat.reduceLeDiff, Nat.reduceSub, Nat.reduceMul, implies_true, Nat.reduceEqDiff, reduceIte, Nat.reduceAdd, Nat.reduceBEq, reduceCtorEq, al26, ap22_22, bd26, bs22_0, bs22_1, fa26_0, fa26_1, ix22, ld3, ld22, ld26, ln22, sn22, sl22, st22, st26, l1In_eq, l1Sign2_eq, wl, eA5, eB5, ev1, ev2, es1, eA2, eB2, es2, q19.rd 0 rfl, q19.rd 2 rfl, q19.rd 3 rfl, q19.rd 4 rfl, q19.rd 5 rfl]
                  have q21 := q19.nil0
                  refine rW_loopQ (σ := Nat × Option Addr × Nat) q21 [0, 1, 6, 7, 8, 10, 11, 12, 13] (fun x tm => tm 14 = .int .i64 x.1 ∧ x.1 ≤ p * r ∧ ∀ j, j < x.1 → (innN f g sb da db j).2 = 0) (fun x L => (L.set 1 (.own (.box H17.length [.slice a4 ((List.take (sa.length - 1) sa).length + sb.tail.length) c4, .slice x.2.1 (innD f g sb da db (x.1)).length x.2.2]))).set 0 (.own (.row (.slice x.2.1 (innD f g sb da db (x.1)).length x.2.2) (innD f g sb da db (x.1))))) (fun x => p * r - x.1) (0, none, 0) ⟨rfl, Nat.zero_le _, fun j hj => by omega⟩ rfl ?_
                  rintro ⟨i, av, cv⟩ tm1 H21 ⟨lv1, lv2, lv3, lv4, lv5, lv6, lv7, lv8, lv9, -⟩ ⟨ki, hi, hz⟩ q22
                  simp -implicitDefEqProofs only [kz, kk0, kk1, kk2, kk3, ↓two_true, ↓two_false, mkv, aggAt, Nat.reduceLeDiff, Nat.reduceSub, Nat.reduceMul, implies_true, Nat.reduceEqDiff, reduceIte, Nat.reduceAdd, Nat.reduceBEq, reduceCtorEq, al26, ap22_22, bd26, bs22_0, bs22_1, fa26_0, fa26_1, ix22, ld3, ld22, ld26, ln22, sn22, sl22, st22, st26, wl, eA5, eB5, ev1, ev2, es1, eA2, eB2, es2] at lv1 lv2 lv3 lv4 lv5 lv6 lv7 lv8 lv9
                  simp only [List.set_cons_zero, List.set_cons_succ] at q22
                  simp only at ki hi hz
                  have wi : IntKind.i64.wrap ((i : Int) + 1) = ((i + 1 : Nat) : Int) := IntWalk.i64_in ((i : Int) + 1) (by omega)
                  have es3 := fun Φ => (specSizeOf_ok (l := innS sa sb) (q22.int 2 rfl) (by have : (innS sa sb).length ≤ sa.length + sb.length := (by simp [innS]; omega); omega)).eq0 (Φ := Φ)
                  simp -implicitDefEqProofs only [kz, kk0, kk1, kk2, kk3, ↓two_true, ↓two_false, mkv, aggAt, Nat.reduceLeDiff, Nat.reduceSub, Nat.reduceMul, implies_true, Nat.reduceEqDiff, reduceIte, Nat.reduceAdd, Nat.reduceBEq, reduceCtorEq, al26, ap22_22, bd26, bs22_0, bs22_1, fa26_0, fa26_1, ix22, ld3, ld22, ld26, ln22, sn22, sl22, st22, st26, l1In_eq, l1Sign2_eq, wl, eA5, eB5, ev1, ev2, es1, eA2, eB2, es2, eS, es3, lv1, lv2, lv3, lv4, lv5, lv6, lv7, lv8, lv9, ki, wi, q22.rd 1 rfl, q22.rd 3 rfl, q22.rd 4 rfl, q22.rd 5 rfl, q22.rd 6 rfl]
                  refine two_intro (fun u9 => ?_) (fun u9 => ?_)
                  ·
                    have hi2 : i < p * r := by have h5 : (i : Int) < ((p * r : Nat) : Int) := (by simpa using u9); omega
                    have hr0 : 0 < r := Nat.pos_of_ne_zero (by rintro rfl; omega)
                    have hiq : i / r < p := (Nat.div_lt_iff_lt_mul hr0).2 hi2
                    have hir : i % r < r := Nat.mod_lt _ hr0
                    have hqm : i / r * m + m ≤ p * m := by have := Nat.mul_le_mul_right m (show i / r + 1 ≤ p from hiq); rw [Nat.add_mul, Nat.one_mul] at this; exact this
                    have hr0i : (r : Int) ≠ 0 := by omega
                    have wq : (i : Int).tdiv (r : Int) = ((i / r : Nat) : Int) := by rw [Int.tdiv_eq_ediv_of_nonneg (by omega)]; rfl
                    have wrm : (i : Int).tmod (r : Int) = ((i % r : Nat) : Int) := by rw [Int.tmod_eq_emod_of_nonneg (by omega)]; rfl
                    have wq1 : IntKind.i64.wrap ((i / r : Nat) : Int) = ((i / r : Nat) : Int) := wrapN (by omega)
                    have wq2 : IntKind.i64.wrap (((i / r : Nat) : Int) * (m : Int)) = ((i / r * m : Nat) : Int) := by rw [← Int.natCast_mul]; exact wrapN (by omega)
                    have wq3 : IntKind.i64.wrap (((i / r * m : Nat) : Int) + (m : Int)) = ((i / r * m + m : Nat) : Int) := by rw [← Int.natCast_add]; exact wrapN (by omega)
                    obtain ⟨a5, c5, ev3, hv3, -⟩ := IntRow.sl (P := Try.prog) (t := 22) (e := 3) (lo := (some (.int .i64 ((i / r * m : Nat) : Int)))) (hi := (some (.int .i64 ((i / r * m + m : Nat) : Int)))) (x := (i / r * m)) (y := (i / r * m + m)) Try.underlying22 (by kernel_rfl) a.od rfl rfl (by omega) (by omega)
                    try simp -implicitDefEqProofs only [kz, kk0, kk1, kk2, kk3, ↓two_true, ↓two_false, mkv, aggAt, Nat.reduceLeDiff, Nat.reduceSub, Nat.reduceMul, implies_true, Nat.reduceEqDiff, reduceIte, Nat.reduceAdd, Nat.reduceBEq, reduceCtorEq, al26, ap22_22, bd26, bs22_0, bs22_1, fa26_0, fa26_1, ix22, ld3, ld22, ld26, ln22, sn22, sl22, st22, st26, l1In_eq, l1Sign2_eq, wl, eA5, eB5, ev1, ev2, es1, eA2, eB2, es2, eS, es3, bin_quo hr0i, bin_rem hr0i, wq, wrm, wq1, wq2, wq3, ev3, lv1, lv2, lv3, lv4, lv5, lv6, lv7, lv8, lv9, ki, wi, q22.rd 1 rfl, q22.rd 3 rfl, q22.rd 4 rfl, q22.rd 5 rfl, q22.rd 6 rfl]
                    try simp -implicitDefEqProofs only [kz, kk0, kk1, kk2, kk3, ↓two_true, ↓two_false, mkv, aggAt, Nat.reduceLeDiff, Nat.reduceSub, Nat.reduceMul, implies_true, Nat.reduceEqDiff, reduceIte, Nat.reduceAdd, Nat.reduceBEq, reduceCtorEq, al26, ap22_22, bd26, bs22_0, bs22_1, fa26_0, fa26_1, ix22, ld3, ld22, ld26, ln22, sn22, sl22, st22, st26, l1In_eq, l1Sign2_eq, wl, eA5, eB5, ev1, ev2, es1, eA2, eB2, es2, eS, es3, bin_quo hr0i, bin_rem hr0i, wq, wrm, wq1, wq2, wq3, ev3, lv1, lv2, lv3, lv4, lv5, lv6, lv7, lv8, lv9, ki, wi, q22.rd 1 rfl, q22.rd 3 rfl, q22.rd 4 rfl, q22.rd 5 rfl, q22.rd 6 rfl]
                    refine st_lit [] rfl rfl q22 fun H22 q23 => ?_
                    simp -implicitDefEqProofs only [kz, kk0, kk1, kk2, kk3, ↓two_true, ↓two_false, mkv, aggAt, Nat.reduceLeDiff, Nat.reduceSub, Nat.reduceMul, implies_true, Nat.reduceEqDiff, reduceIte, Nat.reduceAdd, Nat.reduceBEq, reduceCtorEq, al26, ap22_22, bd26, bs22_0, bs22_1, fa26_0, fa26_1, ix22, ld3, ld22, ld26, ln22, sn22, sl22, st22, st26, l1In_eq, l1Sign2_eq, wl, eA5, eB5, ev1, ev2, es1, eA2, eB2, es2, eS, es3, bin_quo hr0i, bin_rem hr0i, wq, wrm, wq1, wq2, wq3, ev3, lv1, lv2, lv3, lv4, lv5, lv6, lv7, lv8, lv9, ki, wi, q23.rd 2 rfl, q23.rd 4 rfl, q23.rd 5 rfl, q23.rd 6 rfl, q23.rd 7 rfl]
                    refine rW_loopQ (σ := Nat × Value) q23 [0, 1, 6, 7, 8, 9, 10, 11, 12, 13, 14, 15] (fun x tm => tm 17 = .int .i64 x.1 ∧ tm 16 = x.2 ∧ x.1 ≤ m) (fun x L => L.set 0 (.own (.row x.2 (colL sb db r i x.1)))) (fun x => m - x.1) (0, _) ⟨rfl, by first | rfl | assumption, Nat.zero_le _⟩ rfl ?_
                    rintro ⟨k, ov⟩ tm2 H23 ⟨lv10, lv11, lv12, lv13, lv14, lv15, lv16, lv17, lv18, lv19, lv20, lv21, -⟩ ⟨kn, ko, hk⟩ q24
                    simp -implicitDefEqProofs only [kz, kk0, kk1, kk2, kk3, ↓two_true, ↓two_false, mkv, aggAt, Nat.reduceLeDiff, Nat.reduceSub, Nat.reduceMul, implies_true, Nat.reduceEqDiff, reduceIte, Nat.reduceAdd, Nat.reduceBEq, reduceCtorEq, al26, ap22_22, bd26, bs22_0, bs22_1, fa26_0, fa26_1, ix22, ld3, ld22, ld26, ln22, sn22, sl22, st22, st26, lv1, lv2, lv3, lv4, lv5, lv6, lv7, lv8, lv9, ki, wi, wl, eA5, eB5, ev1, ev2, es1, eA2, eB2, es2, eS, es3, bin_quo hr0i, bin_rem hr0i, wq, wrm, wq1, wq2, wq3, ev3] at lv10 lv11 lv12 lv13 lv14 lv15 lv16 lv17 lv18 lv19 lv20 lv21
                    simp only [List.set_cons_zero, List.set_cons_succ] at q24
                    simp only at kn ko hk
                    obtain ⟨a6, c6, rfl⟩ := (q24.own 0 rfl).isSlice
                    simp -implicitDefEqProofs only [kz, kk0, kk1, kk2, kk3, ↓two_true, ↓two_false, mkv, aggAt, Nat.reduceLeDiff, Nat.reduceSub, Nat.reduceMul, implies_true, Nat.reduceEqDiff, reduceIte, Nat.reduceAdd, Nat.reduceBEq, reduceCtorEq, al26, ap22_22, bd26, bs22_0, bs22_1, fa26_0, fa26_1, ix22, ld3, ld22, ld26, ln22, sn22, sl22, st22, st26, l1In_eq, l1Sign2_eq, wl, eA5, eB5, ev1, ev2, es1, eA2, eB2, es2, eS, es3, bin_quo hr0i, bin_rem hr0i, wq, wrm, wq1, wq2, wq3, ev3, ki, wi, lv10, lv11, lv12, lv13, lv14, lv15, lv16, lv17, lv18, lv19, lv20, lv21, kn, ko, q24.rd 2 rfl, q24.rd 4 rfl, q24.rd 5 rfl, q24.rd 6 rfl, q24.rd 7 rfl]
                    refine two_intro (fun u10 => ?_) (fun u10 => ?_)
                    ·
                      have hk2 : k < m := by simpa using u10
                      have wk : IntKind.i64.wrap ((k : Int) + 1) = ((k + 1 : Nat) : Int) := IntWalk.i64_in ((k : Int) + 1) (by omega)
                      have hkr : k * r + i % r < db.length := by rw [← eB3]; have := Nat.mul_le_mul_right r (show k + 1 ≤ m from hk2); rw [Nat.add_mul, Nat.one_mul] at this; omega
                      have wm : IntKind.i64.wrap ((k : Int) * (r : Int)) = ((k * r : Nat) : Int) := by rw [← Int.natCast_mul]; exact IntWalk.i64_in _ (by omega)
                      have wm2 : IntKind.i64.wrap (((k * r : Nat) : Int) + ((i % r : Nat) : Int)) = ((k * r + i % r : Nat) : Int) := by rw [← Int.natCast_add]; exact wrapN (by omega)
                      have eC : db.getD (k * r + i % r) 0 = db[k * r + i % r] := getD_lt hkr
                      obtain ⟨b3, o3, cs3, ei3, fr3, fc3⟩ := ixI (b.od.ext q24.ext) (i := k * r + i % r) hkr
                      try simp -implicitDefEqProofs only [kz, kk0, kk1, kk2, kk3, ↓two_true, ↓two_false, mkv, aggAt, Nat.reduceLeDiff, Nat.reduceSub, Nat.reduceMul, implies_true, Nat.reduceEqDiff, reduceIte, Nat.reduceAdd, Nat.reduceBEq, reduceCtorEq, al26, ap22_22, bd26, bs22_0, bs22_1, fa26_0, fa26_1, ix22, ld3, ld22, ld26, ln22, sn22, sl22, st22, st26, l1In_eq, l1Sign2_eq, wl, eA5, eB5, ev1, ev2, es1, eA2, eB2, es2, eS, es3, bin_quo hr0i, bin_rem hr0i, wq, wrm, wq1, wq2, wq3, ev3, wk, wm, wm2, ei3, fr3, fc3, ki, wi, lv10, lv11, lv12, lv13, lv14, lv15, lv16, lv17, lv18, lv19, lv20, lv21, kn, ko, q24.rd 2 rfl, q24.rd 4 rfl, q24.rd 5 rfl, q24.rd 6 rfl, q24.rd 7 rfl]
                      refine st_lit [(db)[k * r + i % r]] rfl rfl q24 fun H24 q25 => ?_
                      simp -implicitDefEqProofs only [kz, kk0, kk1, kk2, kk3, ↓two_true, ↓two_false, mkv, aggAt, Nat.reduceLeDiff, Nat.reduceSub, Nat.reduceMul, implies_true, Nat.reduceEqDiff, reduceIte, Nat.reduceAdd, Nat.reduceBEq, reduceCtorEq, al26, ap22_22, bd26, bs22_0, bs22_1, fa26_0, fa26_1, ix22, ld3, ld22, ld26, ln22, sn22, sl22, st22, st26, l1In_eq, l1Sign2_eq, wl, eA5, eB5, ev1, ev2, es1, eA2, eB2, es2, eS, es3, bin_quo hr0i, bin_rem hr0i, wq, wrm, wq1, wq2, wq3, ev3, wk, wm, wm2, ki, wi, lv10, lv11, lv12, lv13, lv14, lv15, lv16, lv17, lv18, lv19, lv20, lv21, kn, ko, q25.rd 3 rfl, q25.rd 5 rfl, q25.rd 6 rfl, q25.rd 7 rfl, q25.rd 8 rfl, q24.rd 2 rfl, q24.rd 4 rfl, q24.rd 5 rfl, q24.rd 6 rfl, q24.rd 7 rfl]
                      refine st_app q25 1 rfl (q25.int 0 rfl) (by rw [colL_len]; simp; omega) fun a7 c7 H25 q26 => ?_
                      simp only [List.set_cons_zero, List.set_cons_succ, List.length_nil, List.length_cons, Nat.zero_add, List.nil_append] at q26 ⊢
                      simp -implicitDefEqProofs only [kz, kk0, kk1, kk2, kk3, ↓two_true, ↓two_false, mkv, aggAt, Nat.reduceLeDiff, Nat.reduceSub, Nat.reduceMul, implies_true, Nat.reduceEqDiff, reduceIte, Nat.reduceAdd, Nat.reduceBEq, reduceCtorEq, al26, ap22_22, bd26, bs22_0, bs22_1, fa26_0, fa26_1, ix22, ld3, ld22, ld26, ln22, sn22, sl22, st22, st26, l1In_eq, l1Sign2_eq, wl, eA5, eB5, ev1, ev2, es1, eA2, eB2, es2, eS, es3, bin_quo hr0i, bin_rem hr0i, wq, wrm, wq1, wq2, wq3, ev3, wk, wm, wm2, ki, wi, lv10, lv11, lv12, lv13, lv14, lv15, lv16, lv17, lv18, lv19, lv20, lv21, kn, ko, q26.rd 3 rfl, q26.rd 5 rfl, q26.rd 6 rfl, q26.rd 7 rfl, q26.rd 8 rfl, q24.rd 2 rfl, q24.rd 4 rfl, q24.rd 5 rfl, q24.rd 6 rfl, q24.rd 7 rfl, q25.rd 3 rfl, q25.rd 5 rfl, q25.rd 6 rfl, q25.rd 7 rfl, q25.rd 8 rfl]
                      try simp -implicitDefEqProofs only [kz, kk0, kk1, kk2, kk3, ↓two_true, ↓two_false, mkv, aggAt, Nat.reduceLeDiff, Nat.reduceSub, Nat.reduceMul, implies_true, Nat.reduceEqDiff, reduceIte, Nat.reduceAdd, Nat.reduceBEq, reduceCtorEq, al26, ap22_22, bd26, bs22_0, bs22_1, fa26_0, fa26_1, ix22, ld3, ld22, ld26, ln22, sn22, sl22, st22, st26, l1In_eq, l1Sign2_eq, wl, eA5, eB5, ev1, ev2, es1, eA2, eB2, es2, eS, es3, bin_quo hr0i, bin_rem hr0i, wq, wrm, wq1, wq2, wq3, ev3, wk, wm, wm2, ki, wi, lv10, lv11, lv12, lv13, lv14, lv15, lv16, lv17, lv18, lv19, lv20, lv21, kn, ko, q26.rd 3 rfl, q26.rd 5 rfl, q26.rd 6 rfl, q26.rd 7 rfl, q26.rd 8 rfl]
                      -- back loop2
                      refine ⟨(k + 1, _), (by simp only; omega), ⟨rfl, rfl, rfl, rfl, rfl, rfl, rfl, rfl, rfl, rfl, rfl, rfl, trivial⟩, ⟨by first | rfl | simp, rfl, hk2⟩, ?_⟩
                      simp only [List.set_cons_zero, List.set_cons_succ, colL_succ, eC]
                      exact q26.pick [1, 2, 3, 4, 5, 6, 7, 8] _ rfl (by decide)
                    ·
                      have hkl : k = m := Nat.le_antisymm hk (Nat.not_lt.1 (by simpa using u10))
                      rw [hkl] at ko q24
                      try rw [hkl]
                      try rw [hkl] at kn
                      have hrl : ((da.drop (i / r * m)).take (i / r * m + m - i / r * m)).length = m := by simp; omega
                      try simp -implicitDefEqProofs only [kz, kk0, kk1, kk2, kk3, ↓two_true, ↓two_false, mkv, aggAt, Nat.reduceLeDiff, Nat.reduceSub, Nat.reduceMul, implies_true, Nat.reduceEqDiff, reduceIte, Nat.reduceAdd, Nat.reduceBEq, reduceCtorEq, al26, ap22_22, bd26, bs22_0, bs22_1, fa26_0, fa26_1, ix22, ld3, ld22, ld26, ln22, sn22, sl22, st22, st26, l1In_eq, l1Sign2_eq, wl, eA5, eB5, ev1, ev2, es1, eA2, eB2, es2, eS, es3, bin_quo hr0i, bin_rem hr0i, wq, wrm, wq1, wq2, wq3, ev3, ki, wi, lv10, lv11, lv12, lv13, lv14, lv15, lv16, lv17, lv18, lv19, lv20, lv21, kn, ko, q24.rd 2 rfl, q24.rd 4 rfl, q24.rd 5 rfl, q24.rd 6 rfl, q24.rd 7 rfl]
                      have hd1 := l7Cell_ok (f := f) (g := g) (hv3.ext q24.ext) (q24.int 0 rfl) v3 (by rw [hrl, colL_len]; omega) (by rw [hrl]; omega) (by rw [colL_len]; omega)
                      rw [inn_cell2 eB1 eB2 (by rw [Nat.add_sub_cancel_left]) hrl] at hd1
                      refine hd1.mono ?_
                      rintro _ H26 ⟨rfl, he3⟩
                      have q27 := q24.extd he3
                      simp -implicitDefEqProofs only [kz, kk0, kk1, kk2, kk3, ↓two_true, ↓two_false, mkv, aggAt, Nat.reduceLeDiff, Nat.reduceSub, Nat.reduceMul, implies_true, Nat.reduceEqDiff, reduceIte, Nat.reduceAdd, Nat.reduceBEq, reduceCtorEq, al26, ap22_22, bd26, bs22_0, bs22_1, fa26_0, fa26_1, ix22, ld3, ld22, ld26, ln22, sn22, sl22, st22, st26, l1In_eq, l1Sign2_eq, wl, eA5, eB5, ev1, ev2, es1, eA2, eB2, es2, eS, es3, bin_quo hr0i, bin_rem hr0i, wq, wrm, wq1, wq2, wq3, ev3, ki, wi, lv10, lv11, lv12, lv13, lv14, lv15, lv16, lv17, lv18, lv19, lv20, lv21, kn, ko, q27.rd 2 rfl, q27.rd 4 rfl, q27.rd 5 rfl, q27.rd 6 rfl, q27.rd 7 rfl]
                      refine two_intro (fun u11 => ?_) (fun u11 => ?_)
                      ·
                        have hne : (innN f g sb da db i).2 ≠ 0 := by simpa using u11
                        try simp -implicitDefEqProofs only [kz, kk0, kk1, kk2, kk3, ↓two_true, ↓two_false, mkv, aggAt, Nat.reduceLeDiff, Nat.reduceSub, Nat.reduceMul, implies_true, Nat.reduceEqDiff, reduceIte, Nat.reduceAdd, Nat.reduceBEq, reduceCtorEq, al26, ap22_22, bd26, bs22_0, bs22_1, fa26_0, fa26_1, ix22, ld3, ld22, ld26, ln22, sn22, sl22, st22, st26, l1In_eq, l1Sign2_eq, wl, eA5, eB5, ev1, ev2, es1, eA2, eB2, es2, eS, es3, bin_quo hr0i, bin_rem hr0i, wq, wrm, wq1, wq2, wq3, ev3, ki, wi, lv10, lv11, lv12, lv13, lv14, lv15, lv16, lv17, lv18, lv19, lv20, lv21, kn, ko, q27.rd 2 rfl, q27.rd 4 rfl, q27.rd 5 rfl, q27.rd 6 rfl, q27.rd 7 rfl]
                        refine st_set q27 5 rfl fun H27 q28 => ?_
                        simp only [List.set_cons_zero, List.set_cons_succ] at q28
                        simp -implicitDefEqProofs only [kz, kk0, kk1, kk2, kk3, ↓two_true, ↓two_false, mkv, aggAt, Nat.reduceLeDiff, Nat.reduceSub, Nat.reduceMul, implies_true, Nat.reduceEqDiff, reduceIte, Nat.reduceAdd, Nat.reduceBEq, reduceCtorEq, al26, ap22_22, bd26, bs22_0, bs22_1, fa26_0, fa26_1, ix22, ld3, ld22, ld26, ln22, sn22, sl22, st22, st26, l1In_eq, l1Sign2_eq, wl, eA5, eB5, ev1, ev2, es1, eA2, eB2, es2, eS, es3, bin_quo hr0i, bin_rem hr0i, wq, wrm, wq1, wq2, wq3, ev3, ki, wi, lv10, lv11, lv12, lv13, lv14, lv15, lv16, lv17, lv18, lv19, lv20, lv21, kn, ko, q28.rd 2 rfl, q28.rd 4 rfl, q28.rd 5 rfl, q28.rd 6 rfl, q28.rd 7 rfl]
                        -- end9
                        exact q28.err (by unfold innR; rw [show (arrOk sa da && arrOk sb db && sg2 f && sg2 g) = true by rw [v1, v2, v3, v4]; rfl, if_pos rfl, if_neg (fun h => h hra), if_neg (by rw [eA1, eB1]; omega), if_neg (by omega), show innC f g sb da db (sizeI (innS sa sb)).toNat = (innN f g sb da db i).2 by rw [hs1]; exact firstC_rng hi2 hz hne, if_neg hne])
                      ·
                        have hz1 : (innN f g sb da db i).2 = 0 := by simpa using u11
                        try simp -implicitDefEqProofs only [kz, kk0, kk1, kk2, kk3, ↓two_true, ↓two_false, mkv, aggAt, Nat.reduceLeDiff, Nat.reduceSub, Nat.reduceMul, implies_true, Nat.reduceEqDiff, reduceIte, Nat.reduceAdd, Nat.reduceBEq, reduceCtorEq, al26, ap22_22, bd26, bs22_0, bs22_1, fa26_0, fa26_1, ix22, ld3, ld22, ld26, ln22, sn22, sl22, st22, st26, l1In_eq, l1Sign2_eq, wl, eA5, eB5, ev1, ev2, es1, eA2, eB2, es2, eS, es3, bin_quo hr0i, bin_rem hr0i, wq, wrm, wq1, wq2, wq3, ev3, ki, wi, lv10, lv11, lv12, lv13, lv14, lv15, lv16, lv17, lv18, lv19, lv20, lv21, kn, ko, q27.rd 2 rfl, q27.rd 4 rfl, q27.rd 5 rfl, q27.rd 6 rfl, q27.rd 7 rfl]
                        refine st_lit [(innN f g sb da db i).1] rfl rfl q27 fun H28 q29 => ?_
                        simp -implicitDefEqProofs only [kz, kk0, kk1, kk2, kk3, ↓two_true, ↓two_false, mkv, aggAt, Nat.reduceLeDiff, Nat.reduceSub, Nat.reduceMul, implies_true, Nat.reduceEqDiff, reduceIte, Nat.reduceAdd, Nat.reduceBEq, reduceCtorEq, al26, ap22_22, bd26, bs22_0, bs22_1, fa26_0, fa26_1, ix22, ld3, ld22, ld26, ln22, sn22, sl22, st22, st26, l1In_eq, l1Sign2_eq, wl, eA5, eB5, ev1, ev2, es1, eA2, eB2, es2, eS, es3, bin_quo hr0i, bin_rem hr0i, wq, wrm, wq1, wq2, wq3, ev3, ki, wi, lv10, lv11, lv12, lv13, lv14, lv15, lv16, lv17, lv18, lv19, lv20, lv21, kn, ko, q29.rd 3 rfl, q29.rd 5 rfl, q29.rd 6 rfl, q29.rd 7 rfl, q29.rd 8 rfl]
                        refine st_app q29 2 rfl (q29.int 0 rfl) (by rw [innD_len]; simp; omega) fun a8 c8 H29 q30 => ?_
                        simp only [List.set_cons_zero, List.set_cons_succ, List.length_nil, List.length_cons, Nat.zero_add, List.nil_append] at q30 ⊢
                        simp -implicitDefEqProofs only [kz, kk0, kk1, kk2, kk3, ↓two_true, ↓two_false, mkv, aggAt, Nat.reduceLeDiff, Nat.reduceSub, Nat.reduceMul, implies_true, Nat.reduceEqDiff, reduceIte, Nat.reduceAdd, Nat.reduceBEq, reduceCtorEq, al26, ap22_22, bd26, bs22_0, bs22_1, fa26_0, fa26_1, ix22, ld3, ld22, ld26, ln22, sn22, sl22, st22, st26, l1In_eq, l1Sign2_eq, wl, eA5, eB5, ev1, ev2, es1, eA2, eB2, es2, eS, es3, bin_quo hr0i, bin_rem hr0i, wq, wrm, wq1, wq2, wq3, ev3, ki, wi, lv10, lv11, lv12, lv13, lv14, lv15, lv16, lv17, lv18, lv19, lv20, lv21, kn, ko, q30.rd 3 rfl, q30.rd 5 rfl, q30.rd 6 rfl, q30.rd 7 rfl, q30.rd 8 rfl]
                        refine st_set q30 3 rfl fun H30 q31 => ?_
                        simp only [List.set_cons_zero, List.set_cons_succ] at q31
                        simp -implicitDefEqProofs only [kz, kk0, kk1, kk2, kk3, ↓two_true, ↓two_false, mkv, aggAt, Nat.reduceLeDiff, Nat.reduceSub, Nat.reduceMul, implies_true, Nat.reduceEqDiff, reduceIte, Nat.reduceAdd, Nat.reduceBEq, reduceCtorEq, al26, ap22_22, bd26, bs22_0, bs22_1, fa26_0, fa26_1, ix22, ld3, ld22, ld26, ln22, sn22, sl22, st22, st26, l1In_eq, l1Sign2_eq, wl, eA5, eB5, ev1, ev2, es1, eA2, eB2, es2, eS, es3, bin_quo hr0i, bin_rem hr0i, wq, wrm, wq1, wq2, wq3, ev3, ki, wi, lv10, lv11, lv12, lv13, lv14, lv15, lv16, lv17, lv18, lv19, lv20, lv21, kn, ko, q31.rd 3 rfl, q31.rd 5 rfl, q31.rd 6 rfl, q31.rd 7 rfl, q31.rd 8 rfl]
                        -- back loop1
                        refine ⟨(i + 1, a8, c8), (by simp only; omega), ⟨(lv10.trans lv1.symm), (lv11.trans lv2.symm), (lv12.trans lv3.symm), (lv13.trans lv4.symm), (lv14.trans lv5.symm), (lv16.trans lv6.symm), (lv17.trans lv7.symm), (lv18.trans lv8.symm), (lv19.trans lv9.symm), trivial⟩, ⟨by first | rfl | simp, hi2, fun j hj => by
                          rcases Nat.lt_or_ge j i with h | h
                          · exact hz j h
                          · have e : j = i := (by omega)
                            subst e; exact hz1⟩, ?_⟩
                        simp only [List.set_cons_zero, List.set_cons_succ, innD_succ, List.length_append, List.length_cons, List.length_nil]
                        exact q31.pick [2, 3, 4, 5, 6, 7, 8] _ rfl (by decide)
                  ·
                    have hil : i = p * r := Nat.le_antisymm hi (Nat.not_lt.1 (fun h5 => by have h6 : ¬ (i : Int) < ((p * r : Nat) : Int) := (by simpa using u9); omega))
                    subst hil
                    try simp -implicitDefEqProofs only [kz, kk0, kk1, kk2, kk3, ↓two_true, ↓two_false, mkv, aggAt, Nat.reduceLeDiff, Nat.reduceSub, Nat.reduceMul, implies_true, Nat.reduceEqDiff, reduceIte, Nat.reduceAdd, Nat.reduceBEq, reduceCtorEq, al26, ap22_22, bd26, bs22_0, bs22_1, fa26_0, fa26_1, ix22, ld3, ld22, ld26, ln22, sn22, sl22, st22, st26, l1In_eq, l1Sign2_eq, wl, eA5, eB5, ev1, ev2, es1, eA2, eB2, es2, eS, es3, lv1, lv2, lv3, lv4, lv5, lv6, lv7, lv8, lv9, ki, wi, q22.rd 1 rfl, q22.rd 3 rfl, q22.rd 4 rfl, q22.rd 5 rfl, q22.rd 6 rfl]
                    refine st_set q22 4 rfl fun H31 q32 => ?_
                    simp only [List.set_cons_zero, List.set_cons_succ] at q32
                    simp -implicitDefEqProofs only [kz, kk0, kk1, kk2, kk3, ↓two_true, ↓two_false, mkv, aggAt, Nat.reduceLeDiff, Nat.reduceSub, Nat.reduceMul, implies_true, Nat.reduceEqDiff, reduceIte, Nat.reduceAdd, Nat.reduceBEq, reduceCtorEq, al26, ap22_22, bd26, bs22_0, bs22_1, fa26_0, fa26_1, ix22, ld3, ld22, ld26, ln22, sn22, sl22, st22, st26, l1In_eq, l1Sign2_eq, wl, eA5, eB5, ev1, ev2, es1, eA2, eB2, es2, eS, es3, lv1, lv2, lv3, lv4, lv5, lv6, lv7, lv8, lv9, ki, wi, q32.rd 1 rfl, q32.rd 3 rfl, q32.rd 4 rfl, q32.rd 5 rfl, q32.rd 6 rfl]
                    -- end10
                    exact q32.ans 2 0 (by decide) rfl rfl (by unfold innR; rw [show (arrOk sa da && arrOk sb db && sg2 f && sg2 g) = true by rw [v1, v2, v3, v4]; rfl, if_pos rfl, if_neg (fun h => h hra), if_neg (by rw [eA1, eB1]; omega), if_neg (by omega), if_pos (by rw [hs1]; exact firstC_rng0 hz), hs1]; first | done | rfl)

theorem innR_lim {f g : Int} {sa da sb db : List Int} : (innR f g sa da sb db).1.1.length ≤ 1048576 ∧ (innR f g sa da sb db).1.2.length ≤ 1048576 := by
  unfold innR
  split
  · split
    · simp
    · split
      · simp
      · split
        · simp
        · rename_i h
          split
          · obtain ⟨e1, e2, e3⟩ := sizeI_ok (l := innS sa sb) (by omega)
            have := sizeI_le (l := innS sa sb)
            refine ⟨by simp only; omega, ?_⟩
            simp only [innD_len]; omega
          · simp
  · simp

theorem DrawInner_ok {H : AH} {v : Value} (hv : BRv H v) : CallsA Try.prog 30 #[v] H fun r H' => ∃ (f : Int) (g : Int) (psa qsa : Value) (sa da : List Int) (psb qsb : Value) (sb db : List Int), r = .tuple #[.int .i64 f, .int .i64 g, .agg #[psa, qsa], .agg #[psb, qsb]] ∧ LD none H H' [.row psa sa, .row qsa da, .row psb sb, .row qsb db] ∧ sa.length ≤ 1048576 ∧ da.length ≤ 1048576 ∧ sb.length ≤ 1048576 ∧ db.length ≤ 1048576 := by
  obtain ⟨a0, n0, c0, rfl, hn0, hb⟩ := hv
  have hv : BRv H (.slice a0 n0 c0) := ⟨a0, n0, c0, rfl, hn0, hb⟩
  have q := (LX.nil (H := H))
  refine w30 ?_
  unfold k30
  simp -implicitDefEqProofs only [kz, kk0, kk1, kk2, kk3, ↓two_true, ↓two_false, mkv, aggAt, Nat.reduceLeDiff, Nat.reduceSub, Nat.reduceMul, implies_true, Nat.reduceEqDiff, reduceIte, Nat.reduceAdd, Nat.reduceBEq, reduceCtorEq, al26, bs22_1, bs22_2, ld26, st26]
  refine st_box q fun H1 q1 => ?_
  simp -implicitDefEqProofs only [kz, kk0, kk1, kk2, kk3, ↓two_true, ↓two_false, mkv, aggAt, Nat.reduceLeDiff, Nat.reduceSub, Nat.reduceMul, implies_true, Nat.reduceEqDiff, reduceIte, Nat.reduceAdd, Nat.reduceBEq, reduceCtorEq, al26, bs22_1, bs22_2, ld26, st26, q1.rd 0 rfl]
  refine st_box q1 fun H2 q2 => ?_
  simp -implicitDefEqProofs only [kz, kk0, kk1, kk2, kk3, ↓two_true, ↓two_false, mkv, aggAt, Nat.reduceLeDiff, Nat.reduceSub, Nat.reduceMul, implies_true, Nat.reduceEqDiff, reduceIte, Nat.reduceAdd, Nat.reduceBEq, reduceCtorEq, al26, bs22_1, bs22_2, ld26, st26, q2.rd 0 rfl, q2.rd 1 rfl]
  refine (l1New_ok (BRv.ext hv q2.ext)).mono ?_
  rintro _ H3 ⟨cb, rfl, hc1, hcb1, he1⟩
  have q3 := q2.cursor he1 hc1 hcb1
  have hcb0 := Nat.le_trans q2.len hcb1
  simp -implicitDefEqProofs only [kz, kk0, kk1, kk2, kk3, ↓two_true, ↓two_false, mkv, aggAt, Nat.reduceLeDiff, Nat.reduceSub, Nat.reduceMul, implies_true, Nat.reduceEqDiff, reduceIte, Nat.reduceAdd, Nat.reduceBEq, reduceCtorEq, al26, bs22_1, bs22_2, ld26, st26, q3.rd 0 rfl, q3.rd 1 rfl]
  refine (l1DrawSign_ok q3.cur).mono ?_
  rintro _ H4 ⟨⟨s1, rfl⟩, hf1⟩
  have q4 := q3.call hf1
  simp -implicitDefEqProofs only [kz, kk0, kk1, kk2, kk3, ↓two_true, ↓two_false, mkv, aggAt, Nat.reduceLeDiff, Nat.reduceSub, Nat.reduceMul, implies_true, Nat.reduceEqDiff, reduceIte, Nat.reduceAdd, Nat.reduceBEq, reduceCtorEq, al26, bs22_1, bs22_2, ld26, st26, q4.rd 0 rfl, q4.rd 1 rfl]
  refine (l1DrawSign_ok q4.cur).mono ?_
  rintro _ H5 ⟨⟨s2, rfl⟩, hf2⟩
  have q5 := q4.call hf2
  simp -implicitDefEqProofs only [kz, kk0, kk1, kk2, kk3, ↓two_true, ↓two_false, mkv, aggAt, Nat.reduceLeDiff, Nat.reduceSub, Nat.reduceMul, implies_true, Nat.reduceEqDiff, reduceIte, Nat.reduceAdd, Nat.reduceBEq, reduceCtorEq, al26, bs22_1, bs22_2, ld26, st26, q5.rd 0 rfl, q5.rd 1 rfl]
  refine (l1Below_ok q5.cur).mono ?_
  rintro _ H6 ⟨⟨x1, rfl, -, hx1⟩, hf3⟩
  have q6 := q5.call hf3
  simp -implicitDefEqProofs only [kz, kk0, kk1, kk2, kk3, ↓two_true, ↓two_false, mkv, aggAt, Nat.reduceLeDiff, Nat.reduceSub, Nat.reduceMul, implies_true, Nat.reduceEqDiff, reduceIte, Nat.reduceAdd, Nat.reduceBEq, reduceCtorEq, al26, bs22_1, bs22_2, ld26, st26, q6.rd 0 rfl, q6.rd 1 rfl]
  refine st_lit [x1] rfl rfl q6 fun H7 q7 => ?_
  simp -implicitDefEqProofs only [kz, kk0, kk1, kk2, kk3, ↓two_true, ↓two_false, mkv, aggAt, Nat.reduceLeDiff, Nat.reduceSub, Nat.reduceMul, implies_true, Nat.reduceEqDiff, reduceIte, Nat.reduceAdd, Nat.reduceBEq, reduceCtorEq, al26, bs22_1, bs22_2, ld26, st26, q7.rd 1 rfl, q7.rd 2 rfl]
  refine (l3Fill_ok q7.cur (q7.own 0 rfl) (q7.nc 0 rfl) (by first | omega | (simp; omega) | simp)).mono ?_
  rintro _ H8 ⟨⟨p1, p2, xd1, rfl, d1, n1, -⟩, hf4⟩
  have hl_xd1 : xd1.length ≤ 300 := by have := sizeI_le (l := [x1]); omega
  have q8 := q7.da d1 hf4
  obtain ⟨a1, c1, rfl⟩ := (q8.own 0 rfl).isSlice
  obtain ⟨a2, c2, rfl⟩ := (q8.own 1 rfl).isSlice
  simp -implicitDefEqProofs only [kz, kk0, kk1, kk2, kk3, ↓two_true, ↓two_false, mkv, aggAt, Nat.reduceLeDiff, Nat.reduceSub, Nat.reduceMul, implies_true, Nat.reduceEqDiff, reduceIte, Nat.reduceAdd, Nat.reduceBEq, reduceCtorEq, al26, bs22_1, bs22_2, ld26, st26, q8.rd 3 rfl, q8.rd 4 rfl]
  refine st_box q8 fun H9 q9 => ?_
  simp -implicitDefEqProofs only [kz, kk0, kk1, kk2, kk3, ↓two_true, ↓two_false, mkv, aggAt, Nat.reduceLeDiff, Nat.reduceSub, Nat.reduceMul, implies_true, Nat.reduceEqDiff, reduceIte, Nat.reduceAdd, Nat.reduceBEq, reduceCtorEq, al26, bs22_1, bs22_2, ld26, st26, q9.rd 0 rfl, q9.rd 4 rfl, q9.rd 5 rfl]
  refine st_set q9 0 rfl fun H10 q10 => ?_
  simp only [List.set_cons_zero, List.set_cons_succ] at q10
  simp -implicitDefEqProofs only [kz, kk0, kk1, kk2, kk3, ↓two_true, ↓two_false, mkv, aggAt, Nat.reduceLeDiff, Nat.reduceSub, Nat.reduceMul, implies_true, Nat.reduceEqDiff, reduceIte, Nat.reduceAdd, Nat.reduceBEq, reduceCtorEq, al26, bs22_1, bs22_2, ld26, st26, q10.rd 0 rfl, q10.rd 4 rfl, q10.rd 5 rfl]
  refine (l1Once_ok q10.cur).mono ?_
  rintro _ H11 ⟨⟨bb1, rfl⟩, hf5⟩
  have q11 := q10.call hf5
  simp -implicitDefEqProofs only [kz, kk0, kk1, kk2, kk3, ↓two_true, ↓two_false, mkv, aggAt, Nat.reduceLeDiff, Nat.reduceSub, Nat.reduceMul, implies_true, Nat.reduceEqDiff, reduceIte, Nat.reduceAdd, Nat.reduceBEq, reduceCtorEq, al26, bs22_1, bs22_2, ld26, st26, q11.rd 0 rfl, q11.rd 4 rfl, q11.rd 5 rfl]
  refine two_intro (fun u1 => ?_) (fun u1 => ?_)
  ·
    try simp -implicitDefEqProofs only [kz, kk0, kk1, kk2, kk3, ↓two_true, ↓two_false, mkv, aggAt, Nat.reduceLeDiff, Nat.reduceSub, Nat.reduceMul, implies_true, Nat.reduceEqDiff, reduceIte, Nat.reduceAdd, Nat.reduceBEq, reduceCtorEq, al26, bs22_1, bs22_2, ld26, st26, q11.rd 0 rfl, q11.rd 4 rfl, q11.rd 5 rfl]
    refine (l1Below_ok q11.cur).mono ?_
    rintro _ H12 ⟨⟨x2, rfl, -, hx2⟩, hf6⟩
    have q12 := q11.call hf6
    simp -implicitDefEqProofs only [kz, kk0, kk1, kk2, kk3, ↓two_true, ↓two_false, mkv, aggAt, Nat.reduceLeDiff, Nat.reduceSub, Nat.reduceMul, implies_true, Nat.reduceEqDiff, reduceIte, Nat.reduceAdd, Nat.reduceBEq, reduceCtorEq, al26, bs22_1, bs22_2, ld26, st26, q12.rd 0 rfl, q12.rd 4 rfl, q12.rd 5 rfl]
    refine st_lit [x2, x1] rfl rfl q12 fun H13 q13 => ?_
    simp -implicitDefEqProofs only [kz, kk0, kk1, kk2, kk3, ↓two_true, ↓two_false, mkv, aggAt, Nat.reduceLeDiff, Nat.reduceSub, Nat.reduceMul, implies_true, Nat.reduceEqDiff, reduceIte, Nat.reduceAdd, Nat.reduceBEq, reduceCtorEq, al26, bs22_1, bs22_2, ld26, st26, q13.rd 1 rfl, q13.rd 5 rfl, q13.rd 6 rfl]
    refine (l3Fill_ok q13.cur (q13.own 0 rfl) (q13.nc 0 rfl) (by first | omega | (simp; omega) | simp)).mono ?_
    rintro _ H14 ⟨⟨p3, p4, xd2, rfl, d2, n2, -⟩, hf7⟩
    have hl_xd2 : xd2.length ≤ 300 := by have := sizeI_le (l := [x2, x1]); omega
    have q14 := q13.da d2 hf7
    obtain ⟨a3, c3, rfl⟩ := (q14.own 0 rfl).isSlice
    obtain ⟨a4, c4, rfl⟩ := (q14.own 1 rfl).isSlice
    simp -implicitDefEqProofs only [kz, kk0, kk1, kk2, kk3, ↓two_true, ↓two_false, mkv, aggAt, Nat.reduceLeDiff, Nat.reduceSub, Nat.reduceMul, implies_true, Nat.reduceEqDiff, reduceIte, Nat.reduceAdd, Nat.reduceBEq, reduceCtorEq, al26, bs22_1, bs22_2, ld26, st26, q14.rd 3 rfl, q14.rd 7 rfl, q14.rd 8 rfl]
    refine st_set q14 3 rfl fun H15 q15 => ?_
    simp only [List.set_cons_zero, List.set_cons_succ] at q15
    simp -implicitDefEqProofs only [kz, kk0, kk1, kk2, kk3, ↓two_true, ↓two_false, mkv, aggAt, Nat.reduceLeDiff, Nat.reduceSub, Nat.reduceMul, implies_true, Nat.reduceEqDiff, reduceIte, Nat.reduceAdd, Nat.reduceBEq, reduceCtorEq, al26, bs22_1, bs22_2, ld26, st26, q15.rd 3 rfl, q15.rd 7 rfl, q15.rd 8 rfl]
    refine st_lit [x1] rfl rfl q15 fun H16 q16 => ?_
    simp -implicitDefEqProofs only [kz, kk0, kk1, kk2, kk3, ↓two_true, ↓two_false, mkv, aggAt, Nat.reduceLeDiff, Nat.reduceSub, Nat.reduceMul, implies_true, Nat.reduceEqDiff, reduceIte, Nat.reduceAdd, Nat.reduceBEq, reduceCtorEq, al26, bs22_1, bs22_2, ld26, st26, q16.rd 4 rfl, q16.rd 8 rfl, q16.rd 9 rfl]
    refine (l3Fill_ok q16.cur (q16.own 0 rfl) (q16.nc 0 rfl) (by first | omega | (simp; omega) | simp)).mono ?_
    rintro _ H17 ⟨⟨p5, p6, xd3, rfl, d3, n3, -⟩, hf8⟩
    have hl_xd3 : xd3.length ≤ 300 := by have := sizeI_le (l := [x1]); omega
    have q17 := q16.da d3 hf8
    obtain ⟨a5, c5, rfl⟩ := (q17.own 0 rfl).isSlice
    obtain ⟨a6, c6, rfl⟩ := (q17.own 1 rfl).isSlice
    simp -implicitDefEqProofs only [kz, kk0, kk1, kk2, kk3, ↓two_true, ↓two_false, mkv, aggAt, Nat.reduceLeDiff, Nat.reduceSub, Nat.reduceMul, implies_true, Nat.reduceEqDiff, reduceIte, Nat.reduceAdd, Nat.reduceBEq, reduceCtorEq, al26, bs22_1, bs22_2, ld26, st26, q17.rd 6 rfl, q17.rd 10 rfl, q17.rd 11 rfl]
    refine st_box q17 fun H18 q18 => ?_
    simp -implicitDefEqProofs only [kz, kk0, kk1, kk2, kk3, ↓two_true, ↓two_false, mkv, aggAt, Nat.reduceLeDiff, Nat.reduceSub, Nat.reduceMul, implies_true, Nat.reduceEqDiff, reduceIte, Nat.reduceAdd, Nat.reduceBEq, reduceCtorEq, al26, bs22_1, bs22_2, ld26, st26, q18.rd 0 rfl, q18.rd 7 rfl, q18.rd 11 rfl, q18.rd 12 rfl]
    refine st_set q18 0 rfl fun H19 q19 => ?_
    simp only [List.set_cons_zero, List.set_cons_succ] at q19
    simp -implicitDefEqProofs only [kz, kk0, kk1, kk2, kk3, ↓two_true, ↓two_false, mkv, aggAt, Nat.reduceLeDiff, Nat.reduceSub, Nat.reduceMul, implies_true, Nat.reduceEqDiff, reduceIte, Nat.reduceAdd, Nat.reduceBEq, reduceCtorEq, al26, bs22_1, bs22_2, ld26, st26, q19.rd 0 rfl, q19.rd 7 rfl, q19.rd 11 rfl, q19.rd 12 rfl]
    refine (l1Once_ok q19.cur).mono ?_
    rintro _ H20 ⟨⟨bb2, rfl⟩, hf9⟩
    have q20 := q19.call hf9
    simp -implicitDefEqProofs only [kz, kk0, kk1, kk2, kk3, ↓two_true, ↓two_false, mkv, aggAt, Nat.reduceLeDiff, Nat.reduceSub, Nat.reduceMul, implies_true, Nat.reduceEqDiff, reduceIte, Nat.reduceAdd, Nat.reduceBEq, reduceCtorEq, al26, bs22_1, bs22_2, ld26, st26, q20.rd 0 rfl, q20.rd 7 rfl, q20.rd 11 rfl, q20.rd 12 rfl]
    refine two_intro (fun u2 => ?_) (fun u2 => ?_)
    ·
      try simp -implicitDefEqProofs only [kz, kk0, kk1, kk2, kk3, ↓two_true, ↓two_false, mkv, aggAt, Nat.reduceLeDiff, Nat.reduceSub, Nat.reduceMul, implies_true, Nat.reduceEqDiff, reduceIte, Nat.reduceAdd, Nat.reduceBEq, reduceCtorEq, al26, bs22_1, bs22_2, ld26, st26, q20.rd 0 rfl, q20.rd 7 rfl, q20.rd 11 rfl, q20.rd 12 rfl]
      refine (l1Below_ok q20.cur).mono ?_
      rintro _ H21 ⟨⟨x3, rfl, -, hx3⟩, hf10⟩
      have q21 := q20.call hf10
      simp -implicitDefEqProofs only [kz, kk0, kk1, kk2, kk3, ↓two_true, ↓two_false, mkv, aggAt, Nat.reduceLeDiff, Nat.reduceSub, Nat.reduceMul, implies_true, Nat.reduceEqDiff, reduceIte, Nat.reduceAdd, Nat.reduceBEq, reduceCtorEq, al26, bs22_1, bs22_2, ld26, st26, q21.rd 0 rfl, q21.rd 7 rfl, q21.rd 11 rfl, q21.rd 12 rfl]
      refine st_lit [x1, x3] rfl rfl q21 fun H22 q22 => ?_
      simp -implicitDefEqProofs only [kz, kk0, kk1, kk2, kk3, ↓two_true, ↓two_false, mkv, aggAt, Nat.reduceLeDiff, Nat.reduceSub, Nat.reduceMul, implies_true, Nat.reduceEqDiff, reduceIte, Nat.reduceAdd, Nat.reduceBEq, reduceCtorEq, al26, bs22_1, bs22_2, ld26, st26, q22.rd 1 rfl, q22.rd 8 rfl, q22.rd 12 rfl, q22.rd 13 rfl]
      refine (l3Fill_ok q22.cur (q22.own 0 rfl) (q22.nc 0 rfl) (by first | omega | (simp; omega) | simp)).mono ?_
      rintro _ H23 ⟨⟨p7, p8, xd4, rfl, d4, n4, -⟩, hf11⟩
      have hl_xd4 : xd4.length ≤ 300 := by have := sizeI_le (l := [x1, x3]); omega
      have q23 := q22.da d4 hf11
      obtain ⟨a7, c7, rfl⟩ := (q23.own 0 rfl).isSlice
      obtain ⟨a8, c8, rfl⟩ := (q23.own 1 rfl).isSlice
      simp -implicitDefEqProofs only [kz, kk0, kk1, kk2, kk3, ↓two_true, ↓two_false, mkv, aggAt, Nat.reduceLeDiff, Nat.reduceSub, Nat.reduceMul, implies_true, Nat.reduceEqDiff, reduceIte, Nat.reduceAdd, Nat.reduceBEq, reduceCtorEq, al26, bs22_1, bs22_2, ld26, st26, q23.rd 3 rfl, q23.rd 10 rfl, q23.rd 14 rfl, q23.rd 15 rfl]
      refine st_set q23 3 rfl fun H24 q24 => ?_
      simp only [List.set_cons_zero, List.set_cons_succ] at q24
      simp -implicitDefEqProofs only [kz, kk0, kk1, kk2, kk3, ↓two_true, ↓two_false, mkv, aggAt, Nat.reduceLeDiff, Nat.reduceSub, Nat.reduceMul, implies_true, Nat.reduceEqDiff, reduceIte, Nat.reduceAdd, Nat.reduceBEq, reduceCtorEq, al26, bs22_1, bs22_2, ld26, st26, q24.rd 3 rfl, q24.rd 10 rfl, q24.rd 14 rfl, q24.rd 15 rfl]
      refine (l1Below_ok q24.cur).mono ?_
      rintro _ H25 ⟨⟨x4, rfl, -, hx4⟩, hf12⟩
      have q25 := q24.call hf12
      simp -implicitDefEqProofs only [kz, kk0, kk1, kk2, kk3, ↓two_true, ↓two_false, mkv, aggAt, Nat.reduceLeDiff, Nat.reduceSub, Nat.reduceMul, implies_true, Nat.reduceEqDiff, reduceIte, Nat.reduceAdd, Nat.reduceBEq, reduceCtorEq, al26, bs22_1, bs22_2, ld26, st26, q25.rd 3 rfl, q25.rd 10 rfl, q25.rd 14 rfl, q25.rd 15 rfl]
      refine two_intro (fun u3 => ?_) (fun u3 => ?_)
      ·
        try simp -implicitDefEqProofs only [kz, kk0, kk1, kk2, kk3, ↓two_true, ↓two_false, mkv, aggAt, Nat.reduceLeDiff, Nat.reduceSub, Nat.reduceMul, implies_true, Nat.reduceEqDiff, reduceIte, Nat.reduceAdd, Nat.reduceBEq, reduceCtorEq, al26, bs22_1, bs22_2, ld26, st26, q25.rd 3 rfl, q25.rd 10 rfl, q25.rd 14 rfl, q25.rd 15 rfl]
        refine (l3Draw_ok q25.cur).mono ?_
        rintro _ H26 ⟨⟨p9, p10, xs1, xd5, rfl, d5, m1, m2⟩, hf13⟩
        have q26 := q25.da d5 hf13
        obtain ⟨a9, c9, rfl⟩ := (q26.own 0 rfl).isSlice
        obtain ⟨a10, c10, rfl⟩ := (q26.own 1 rfl).isSlice
        simp -implicitDefEqProofs only [kz, kk0, kk1, kk2, kk3, ↓two_true, ↓two_false, mkv, aggAt, Nat.reduceLeDiff, Nat.reduceSub, Nat.reduceMul, implies_true, Nat.reduceEqDiff, reduceIte, Nat.reduceAdd, Nat.reduceBEq, reduceCtorEq, al26, bs22_1, bs22_2, ld26, st26, q26.rd 5 rfl, q26.rd 12 rfl, q26.rd 16 rfl, q26.rd 17 rfl]
        refine st_set q26 12 rfl fun H27 q27 => ?_
        simp only [List.set_cons_zero, List.set_cons_succ] at q27
        simp -implicitDefEqProofs only [kz, kk0, kk1, kk2, kk3, ↓two_true, ↓two_false, mkv, aggAt, Nat.reduceLeDiff, Nat.reduceSub, Nat.reduceMul, implies_true, Nat.reduceEqDiff, reduceIte, Nat.reduceAdd, Nat.reduceBEq, reduceCtorEq, al26, bs22_1, bs22_2, ld26, st26, q27.rd 5 rfl, q27.rd 12 rfl, q27.rd 16 rfl, q27.rd 17 rfl]
        refine st_set q27 17 rfl fun H28 q28 => ?_
        simp only [List.set_cons_zero, List.set_cons_succ] at q28
        simp -implicitDefEqProofs only [kz, kk0, kk1, kk2, kk3, ↓two_true, ↓two_false, mkv, aggAt, Nat.reduceLeDiff, Nat.reduceSub, Nat.reduceMul, implies_true, Nat.reduceEqDiff, reduceIte, Nat.reduceAdd, Nat.reduceBEq, reduceCtorEq, al26, bs22_1, bs22_2, ld26, st26, q28.rd 5 rfl, q28.rd 12 rfl, q28.rd 16 rfl, q28.rd 17 rfl, q27.rd 5 rfl, q27.rd 12 rfl, q27.rd 16 rfl, q27.rd 17 rfl]
        refine st_set q28 16 rfl fun H29 q29 => ?_
        simp only [List.set_cons_zero, List.set_cons_succ] at q29
        simp -implicitDefEqProofs only [kz, kk0, kk1, kk2, kk3, ↓two_true, ↓two_false, mkv, aggAt, Nat.reduceLeDiff, Nat.reduceSub, Nat.reduceMul, implies_true, Nat.reduceEqDiff, reduceIte, Nat.reduceAdd, Nat.reduceBEq, reduceCtorEq, al26, bs22_1, bs22_2, ld26, st26, q29.rd 5 rfl, q29.rd 12 rfl, q29.rd 16 rfl, q29.rd 17 rfl, q27.rd 5 rfl, q27.rd 12 rfl, q27.rd 16 rfl, q27.rd 17 rfl, q28.rd 5 rfl, q28.rd 12 rfl, q28.rd 16 rfl, q28.rd 17 rfl]
        -- end1
        exact ⟨s1, s2, _, _, xs1, xd5, _, _, [x1, x3], xd4, rfl, (q29.out hcb0).give [0, 1, 2, 3] (by decide) _ rfl, (by first | omega | (simp; omega) | simp), (by first | omega | (simp; omega) | simp), (by first | omega | (simp; omega) | simp), (by first | omega | (simp; omega) | simp)⟩
      ·
        try simp -implicitDefEqProofs only [kz, kk0, kk1, kk2, kk3, ↓two_true, ↓two_false, mkv, aggAt, Nat.reduceLeDiff, Nat.reduceSub, Nat.reduceMul, implies_true, Nat.reduceEqDiff, reduceIte, Nat.reduceAdd, Nat.reduceBEq, reduceCtorEq, al26, bs22_1, bs22_2, ld26, st26, q25.rd 3 rfl, q25.rd 10 rfl, q25.rd 14 rfl, q25.rd 15 rfl]
        refine two_intro (fun u4 => ?_) (fun u4 => ?_)
        ·
          try simp -implicitDefEqProofs only [kz, kk0, kk1, kk2, kk3, ↓two_true, ↓two_false, mkv, aggAt, Nat.reduceLeDiff, Nat.reduceSub, Nat.reduceMul, implies_true, Nat.reduceEqDiff, reduceIte, Nat.reduceAdd, Nat.reduceBEq, reduceCtorEq, al26, bs22_1, bs22_2, ld26, st26, q25.rd 3 rfl, q25.rd 10 rfl, q25.rd 14 rfl, q25.rd 15 rfl]
          refine (l3Draw_ok q25.cur).mono ?_
          rintro _ H30 ⟨⟨p11, p12, xs2, xd6, rfl, d6, m3, m4⟩, hf14⟩
          have q30 := q25.da d6 hf14
          obtain ⟨a11, c11, rfl⟩ := (q30.own 0 rfl).isSlice
          obtain ⟨a12, c12, rfl⟩ := (q30.own 1 rfl).isSlice
          simp -implicitDefEqProofs only [kz, kk0, kk1, kk2, kk3, ↓two_true, ↓two_false, mkv, aggAt, Nat.reduceLeDiff, Nat.reduceSub, Nat.reduceMul, implies_true, Nat.reduceEqDiff, reduceIte, Nat.reduceAdd, Nat.reduceBEq, reduceCtorEq, al26, bs22_1, bs22_2, ld26, st26, q30.rd 5 rfl, q30.rd 12 rfl, q30.rd 16 rfl, q30.rd 17 rfl]
          refine st_set q30 5 rfl fun H31 q31 => ?_
          simp only [List.set_cons_zero, List.set_cons_succ] at q31
          simp -implicitDefEqProofs only [kz, kk0, kk1, kk2, kk3, ↓two_true, ↓two_false, mkv, aggAt, Nat.reduceLeDiff, Nat.reduceSub, Nat.reduceMul, implies_true, Nat.reduceEqDiff, reduceIte, Nat.reduceAdd, Nat.reduceBEq, reduceCtorEq, al26, bs22_1, bs22_2, ld26, st26, q31.rd 5 rfl, q31.rd 12 rfl, q31.rd 16 rfl, q31.rd 17 rfl]
          refine st_set q31 17 rfl fun H32 q32 => ?_
          simp only [List.set_cons_zero, List.set_cons_succ] at q32
          simp -implicitDefEqProofs only [kz, kk0, kk1, kk2, kk3, ↓two_true, ↓two_false, mkv, aggAt, Nat.reduceLeDiff, Nat.reduceSub, Nat.reduceMul, implies_true, Nat.reduceEqDiff, reduceIte, Nat.reduceAdd, Nat.reduceBEq, reduceCtorEq, al26, bs22_1, bs22_2, ld26, st26, q32.rd 5 rfl, q32.rd 12 rfl, q32.rd 16 rfl, q32.rd 17 rfl, q31.rd 5 rfl, q31.rd 12 rfl, q31.rd 16 rfl, q31.rd 17 rfl]
          refine st_set q32 16 rfl fun H33 q33 => ?_
          simp only [List.set_cons_zero, List.set_cons_succ] at q33
          simp -implicitDefEqProofs only [kz, kk0, kk1, kk2, kk3, ↓two_true, ↓two_false, mkv, aggAt, Nat.reduceLeDiff, Nat.reduceSub, Nat.reduceMul, implies_true, Nat.reduceEqDiff, reduceIte, Nat.reduceAdd, Nat.reduceBEq, reduceCtorEq, al26, bs22_1, bs22_2, ld26, st26, q33.rd 5 rfl, q33.rd 12 rfl, q33.rd 16 rfl, q33.rd 17 rfl, q31.rd 5 rfl, q31.rd 12 rfl, q31.rd 16 rfl, q31.rd 17 rfl, q32.rd 5 rfl, q32.rd 12 rfl, q32.rd 16 rfl, q32.rd 17 rfl]
          -- end2
          exact ⟨s1, s2, _, _, [x2, x1], xd2, _, _, xs2, xd6, rfl, (q33.out hcb0).give [9, 10, 0, 1] (by decide) _ rfl, (by first | omega | (simp; omega) | simp), (by first | omega | (simp; omega) | simp), (by first | omega | (simp; omega) | simp), (by first | omega | (simp; omega) | simp)⟩
        ·
          try simp -implicitDefEqProofs only [kz, kk0, kk1, kk2, kk3, ↓two_true, ↓two_false, mkv, aggAt, Nat.reduceLeDiff, Nat.reduceSub, Nat.reduceMul, implies_true, Nat.reduceEqDiff, reduceIte, Nat.reduceAdd, Nat.reduceBEq, reduceCtorEq, al26, bs22_1, bs22_2, ld26, st26, q25.rd 3 rfl, q25.rd 10 rfl, q25.rd 14 rfl, q25.rd 15 rfl]
          refine st_set q25 15 rfl fun H34 q34 => ?_
          simp only [List.set_cons_zero, List.set_cons_succ] at q34
          simp -implicitDefEqProofs only [kz, kk0, kk1, kk2, kk3, ↓two_true, ↓two_false, mkv, aggAt, Nat.reduceLeDiff, Nat.reduceSub, Nat.reduceMul, implies_true, Nat.reduceEqDiff, reduceIte, Nat.reduceAdd, Nat.reduceBEq, reduceCtorEq, al26, bs22_1, bs22_2, ld26, st26, q34.rd 3 rfl, q34.rd 10 rfl, q34.rd 14 rfl, q34.rd 15 rfl, q25.rd 3 rfl, q25.rd 10 rfl, q25.rd 14 rfl, q25.rd 15 rfl]
          refine st_set q34 14 rfl fun H35 q35 => ?_
          simp only [List.set_cons_zero, List.set_cons_succ] at q35
          simp -implicitDefEqProofs only [kz, kk0, kk1, kk2, kk3, ↓two_true, ↓two_false, mkv, aggAt, Nat.reduceLeDiff, Nat.reduceSub, Nat.reduceMul, implies_true, Nat.reduceEqDiff, reduceIte, Nat.reduceAdd, Nat.reduceBEq, reduceCtorEq, al26, bs22_1, bs22_2, ld26, st26, q35.rd 3 rfl, q35.rd 10 rfl, q35.rd 14 rfl, q35.rd 15 rfl, q25.rd 3 rfl, q25.rd 10 rfl, q25.rd 14 rfl, q25.rd 15 rfl, q34.rd 3 rfl, q34.rd 10 rfl, q34.rd 14 rfl, q34.rd 15 rfl]
          -- end3
          exact ⟨s1, s2, _, _, [x2, x1], xd2, _, _, [x1, x3], xd4, rfl, (q35.out hcb0).give [7, 8, 0, 1] (by decide) _ rfl, (by first | omega | (simp; omega) | simp), (by first | omega | (simp; omega) | simp), (by first | omega | (simp; omega) | simp), (by first | omega | (simp; omega) | simp)⟩
    ·
      try simp -implicitDefEqProofs only [kz, kk0, kk1, kk2, kk3, ↓two_true, ↓two_false, mkv, aggAt, Nat.reduceLeDiff, Nat.reduceSub, Nat.reduceMul, implies_true, Nat.reduceEqDiff, reduceIte, Nat.reduceAdd, Nat.reduceBEq, reduceCtorEq, al26, bs22_1, bs22_2, ld26, st26, q20.rd 0 rfl, q20.rd 7 rfl, q20.rd 11 rfl, q20.rd 12 rfl]
      refine (l1Below_ok q20.cur).mono ?_
      rintro _ H36 ⟨⟨x5, rfl, -, hx5⟩, hf15⟩
      have q36 := q20.call hf15
      simp -implicitDefEqProofs only [kz, kk0, kk1, kk2, kk3, ↓two_true, ↓two_false, mkv, aggAt, Nat.reduceLeDiff, Nat.reduceSub, Nat.reduceMul, implies_true, Nat.reduceEqDiff, reduceIte, Nat.reduceAdd, Nat.reduceBEq, reduceCtorEq, al26, bs22_1, bs22_2, ld26, st26, q36.rd 0 rfl, q36.rd 7 rfl, q36.rd 11 rfl, q36.rd 12 rfl]
      refine two_intro (fun u5 => ?_) (fun u5 => ?_)
      ·
        try simp -implicitDefEqProofs only [kz, kk0, kk1, kk2, kk3, ↓two_true, ↓two_false, mkv, aggAt, Nat.reduceLeDiff, Nat.reduceSub, Nat.reduceMul, implies_true, Nat.reduceEqDiff, reduceIte, Nat.reduceAdd, Nat.reduceBEq, reduceCtorEq, al26, bs22_1, bs22_2, ld26, st26, q36.rd 0 rfl, q36.rd 7 rfl, q36.rd 11 rfl, q36.rd 12 rfl]
        refine (l3Draw_ok q36.cur).mono ?_
        rintro _ H37 ⟨⟨p13, p14, xs3, xd7, rfl, d7, m5, m6⟩, hf16⟩
        have q37 := q36.da d7 hf16
        obtain ⟨a13, c13, rfl⟩ := (q37.own 0 rfl).isSlice
        obtain ⟨a14, c14, rfl⟩ := (q37.own 1 rfl).isSlice
        simp -implicitDefEqProofs only [kz, kk0, kk1, kk2, kk3, ↓two_true, ↓two_false, mkv, aggAt, Nat.reduceLeDiff, Nat.reduceSub, Nat.reduceMul, implies_true, Nat.reduceEqDiff, reduceIte, Nat.reduceAdd, Nat.reduceBEq, reduceCtorEq, al26, bs22_1, bs22_2, ld26, st26, q37.rd 2 rfl, q37.rd 9 rfl, q37.rd 13 rfl, q37.rd 14 rfl]
        refine st_set q37 9 rfl fun H38 q38 => ?_
        simp only [List.set_cons_zero, List.set_cons_succ] at q38
        simp -implicitDefEqProofs only [kz, kk0, kk1, kk2, kk3, ↓two_true, ↓two_false, mkv, aggAt, Nat.reduceLeDiff, Nat.reduceSub, Nat.reduceMul, implies_true, Nat.reduceEqDiff, reduceIte, Nat.reduceAdd, Nat.reduceBEq, reduceCtorEq, al26, bs22_1, bs22_2, ld26, st26, q38.rd 2 rfl, q38.rd 9 rfl, q38.rd 13 rfl, q38.rd 14 rfl]
        refine st_set q38 14 rfl fun H39 q39 => ?_
        simp only [List.set_cons_zero, List.set_cons_succ] at q39
        simp -implicitDefEqProofs only [kz, kk0, kk1, kk2, kk3, ↓two_true, ↓two_false, mkv, aggAt, Nat.reduceLeDiff, Nat.reduceSub, Nat.reduceMul, implies_true, Nat.reduceEqDiff, reduceIte, Nat.reduceAdd, Nat.reduceBEq, reduceCtorEq, al26, bs22_1, bs22_2, ld26, st26, q39.rd 2 rfl, q39.rd 9 rfl, q39.rd 13 rfl, q39.rd 14 rfl, q38.rd 2 rfl, q38.rd 9 rfl, q38.rd 13 rfl, q38.rd 14 rfl]
        refine st_set q39 13 rfl fun H40 q40 => ?_
        simp only [List.set_cons_zero, List.set_cons_succ] at q40
        simp -implicitDefEqProofs only [kz, kk0, kk1, kk2, kk3, ↓two_true, ↓two_false, mkv, aggAt, Nat.reduceLeDiff, Nat.reduceSub, Nat.reduceMul, implies_true, Nat.reduceEqDiff, reduceIte, Nat.reduceAdd, Nat.reduceBEq, reduceCtorEq, al26, bs22_1, bs22_2, ld26, st26, q40.rd 2 rfl, q40.rd 9 rfl, q40.rd 13 rfl, q40.rd 14 rfl, q38.rd 2 rfl, q38.rd 9 rfl, q38.rd 13 rfl, q38.rd 14 rfl, q39.rd 2 rfl, q39.rd 9 rfl, q39.rd 13 rfl, q39.rd 14 rfl]
        -- end4
        exact ⟨s1, s2, _, _, xs3, xd7, _, _, [x1], xd3, rfl, (q40.out hcb0).give [0, 1, 3, 4] (by decide) _ rfl, (by first | omega | (simp; omega) | simp), (by first | omega | (simp; omega) | simp), (by first | omega | (simp; omega) | simp), (by first | omega | (simp; omega) | simp)⟩
      ·
        try simp -implicitDefEqProofs only [kz, kk0, kk1, kk2, kk3, ↓two_true, ↓two_false, mkv, aggAt, Nat.reduceLeDiff, Nat.reduceSub, Nat.reduceMul, implies_true, Nat.reduceEqDiff, reduceIte, Nat.reduceAdd, Nat.reduceBEq, reduceCtorEq, al26, bs22_1, bs22_2, ld26, st26, q36.rd 0 rfl, q36.rd 7 rfl, q36.rd 11 rfl, q36.rd 12 rfl]
        refine two_intro (fun u6 => ?_) (fun u6 => ?_)
        ·
          try simp -implicitDefEqProofs only [kz, kk0, kk1, kk2, kk3, ↓two_true, ↓two_false, mkv, aggAt, Nat.reduceLeDiff, Nat.reduceSub, Nat.reduceMul, implies_true, Nat.reduceEqDiff, reduceIte, Nat.reduceAdd, Nat.reduceBEq, reduceCtorEq, al26, bs22_1, bs22_2, ld26, st26, q36.rd 0 rfl, q36.rd 7 rfl, q36.rd 11 rfl, q36.rd 12 rfl]
          refine (l3Draw_ok q36.cur).mono ?_
          rintro _ H41 ⟨⟨p15, p16, xs4, xd8, rfl, d8, m7, m8⟩, hf17⟩
          have q41 := q36.da d8 hf17
          obtain ⟨a15, c15, rfl⟩ := (q41.own 0 rfl).isSlice
          obtain ⟨a16, c16, rfl⟩ := (q41.own 1 rfl).isSlice
          simp -implicitDefEqProofs only [kz, kk0, kk1, kk2, kk3, ↓two_true, ↓two_false, mkv, aggAt, Nat.reduceLeDiff, Nat.reduceSub, Nat.reduceMul, implies_true, Nat.reduceEqDiff, reduceIte, Nat.reduceAdd, Nat.reduceBEq, reduceCtorEq, al26, bs22_1, bs22_2, ld26, st26, q41.rd 2 rfl, q41.rd 9 rfl, q41.rd 13 rfl, q41.rd 14 rfl]
          refine st_set q41 2 rfl fun H42 q42 => ?_
          simp only [List.set_cons_zero, List.set_cons_succ] at q42
          simp -implicitDefEqProofs only [kz, kk0, kk1, kk2, kk3, ↓two_true, ↓two_false, mkv, aggAt, Nat.reduceLeDiff, Nat.reduceSub, Nat.reduceMul, implies_true, Nat.reduceEqDiff, reduceIte, Nat.reduceAdd, Nat.reduceBEq, reduceCtorEq, al26, bs22_1, bs22_2, ld26, st26, q42.rd 2 rfl, q42.rd 9 rfl, q42.rd 13 rfl, q42.rd 14 rfl]
          refine st_set q42 14 rfl fun H43 q43 => ?_
          simp only [List.set_cons_zero, List.set_cons_succ] at q43
          simp -implicitDefEqProofs only [kz, kk0, kk1, kk2, kk3, ↓two_true, ↓two_false, mkv, aggAt, Nat.reduceLeDiff, Nat.reduceSub, Nat.reduceMul, implies_true, Nat.reduceEqDiff, reduceIte, Nat.reduceAdd, Nat.reduceBEq, reduceCtorEq, al26, bs22_1, bs22_2, ld26, st26, q43.rd 2 rfl, q43.rd 9 rfl, q43.rd 13 rfl, q43.rd 14 rfl, q42.rd 2 rfl, q42.rd 9 rfl, q42.rd 13 rfl, q42.rd 14 rfl]
          refine st_set q43 13 rfl fun H44 q44 => ?_
          simp only [List.set_cons_zero, List.set_cons_succ] at q44
          simp -implicitDefEqProofs only [kz, kk0, kk1, kk2, kk3, ↓two_true, ↓two_false, mkv, aggAt, Nat.reduceLeDiff, Nat.reduceSub, Nat.reduceMul, implies_true, Nat.reduceEqDiff, reduceIte, Nat.reduceAdd, Nat.reduceBEq, reduceCtorEq, al26, bs22_1, bs22_2, ld26, st26, q44.rd 2 rfl, q44.rd 9 rfl, q44.rd 13 rfl, q44.rd 14 rfl, q42.rd 2 rfl, q42.rd 9 rfl, q42.rd 13 rfl, q42.rd 14 rfl, q43.rd 2 rfl, q43.rd 9 rfl, q43.rd 13 rfl, q43.rd 14 rfl]
          -- end5
          exact ⟨s1, s2, _, _, [x2, x1], xd2, _, _, xs4, xd8, rfl, (q44.out hcb0).give [6, 7, 0, 1] (by decide) _ rfl, (by first | omega | (simp; omega) | simp), (by first | omega | (simp; omega) | simp), (by first | omega | (simp; omega) | simp), (by first | omega | (simp; omega) | simp)⟩
        ·
          try simp -implicitDefEqProofs only [kz, kk0, kk1, kk2, kk3, ↓two_true, ↓two_false, mkv, aggAt, Nat.reduceLeDiff, Nat.reduceSub, Nat.reduceMul, implies_true, Nat.reduceEqDiff, reduceIte, Nat.reduceAdd, Nat.reduceBEq, reduceCtorEq, al26, bs22_1, bs22_2, ld26, st26, q36.rd 0 rfl, q36.rd 7 rfl, q36.rd 11 rfl, q36.rd 12 rfl]
          refine st_set q36 12 rfl fun H45 q45 => ?_
          simp only [List.set_cons_zero, List.set_cons_succ] at q45
          simp -implicitDefEqProofs only [kz, kk0, kk1, kk2, kk3, ↓two_true, ↓two_false, mkv, aggAt, Nat.reduceLeDiff, Nat.reduceSub, Nat.reduceMul, implies_true, Nat.reduceEqDiff, reduceIte, Nat.reduceAdd, Nat.reduceBEq, reduceCtorEq, al26, bs22_1, bs22_2, ld26, st26, q45.rd 0 rfl, q45.rd 7 rfl, q45.rd 11 rfl, q45.rd 12 rfl, q36.rd 0 rfl, q36.rd 7 rfl, q36.rd 11 rfl, q36.rd 12 rfl]
          refine st_set q45 11 rfl fun H46 q46 => ?_
          simp only [List.set_cons_zero, List.set_cons_succ] at q46
          simp -implicitDefEqProofs only [kz, kk0, kk1, kk2, kk3, ↓two_true, ↓two_false, mkv, aggAt, Nat.reduceLeDiff, Nat.reduceSub, Nat.reduceMul, implies_true, Nat.reduceEqDiff, reduceIte, Nat.reduceAdd, Nat.reduceBEq, reduceCtorEq, al26, bs22_1, bs22_2, ld26, st26, q46.rd 0 rfl, q46.rd 7 rfl, q46.rd 11 rfl, q46.rd 12 rfl, q36.rd 0 rfl, q36.rd 7 rfl, q36.rd 11 rfl, q36.rd 12 rfl, q45.rd 0 rfl, q45.rd 7 rfl, q45.rd 11 rfl, q45.rd 12 rfl]
          -- end6
          exact ⟨s1, s2, _, _, [x2, x1], xd2, _, _, [x1], xd3, rfl, (q46.out hcb0).give [4, 5, 1, 2] (by decide) _ rfl, (by first | omega | (simp; omega) | simp), (by first | omega | (simp; omega) | simp), (by first | omega | (simp; omega) | simp), (by first | omega | (simp; omega) | simp)⟩
  ·
    try simp -implicitDefEqProofs only [kz, kk0, kk1, kk2, kk3, ↓two_true, ↓two_false, mkv, aggAt, Nat.reduceLeDiff, Nat.reduceSub, Nat.reduceMul, implies_true, Nat.reduceEqDiff, reduceIte, Nat.reduceAdd, Nat.reduceBEq, reduceCtorEq, al26, bs22_1, bs22_2, ld26, st26, q11.rd 0 rfl, q11.rd 4 rfl, q11.rd 5 rfl]
    refine st_lit [x1] rfl rfl q11 fun H47 q47 => ?_
    simp -implicitDefEqProofs only [kz, kk0, kk1, kk2, kk3, ↓two_true, ↓two_false, mkv, aggAt, Nat.reduceLeDiff, Nat.reduceSub, Nat.reduceMul, implies_true, Nat.reduceEqDiff, reduceIte, Nat.reduceAdd, Nat.reduceBEq, reduceCtorEq, al26, bs22_1, bs22_2, ld26, st26, q47.rd 1 rfl, q47.rd 5 rfl, q47.rd 6 rfl]
    refine (l3Fill_ok q47.cur (q47.own 0 rfl) (q47.nc 0 rfl) (by first | omega | (simp; omega) | simp)).mono ?_
    rintro _ H48 ⟨⟨p17, p18, xd9, rfl, d9, n5, -⟩, hf18⟩
    have hl_xd9 : xd9.length ≤ 300 := by have := sizeI_le (l := [x1]); omega
    have q48 := q47.da d9 hf18
    obtain ⟨a17, c17, rfl⟩ := (q48.own 0 rfl).isSlice
    obtain ⟨a18, c18, rfl⟩ := (q48.own 1 rfl).isSlice
    simp -implicitDefEqProofs only [kz, kk0, kk1, kk2, kk3, ↓two_true, ↓two_false, mkv, aggAt, Nat.reduceLeDiff, Nat.reduceSub, Nat.reduceMul, implies_true, Nat.reduceEqDiff, reduceIte, Nat.reduceAdd, Nat.reduceBEq, reduceCtorEq, al26, bs22_1, bs22_2, ld26, st26, q48.rd 3 rfl, q48.rd 7 rfl, q48.rd 8 rfl]
    refine st_box q48 fun H49 q49 => ?_
    simp -implicitDefEqProofs only [kz, kk0, kk1, kk2, kk3, ↓two_true, ↓two_false, mkv, aggAt, Nat.reduceLeDiff, Nat.reduceSub, Nat.reduceMul, implies_true, Nat.reduceEqDiff, reduceIte, Nat.reduceAdd, Nat.reduceBEq, reduceCtorEq, al26, bs22_1, bs22_2, ld26, st26, q49.rd 0 rfl, q49.rd 4 rfl, q49.rd 8 rfl, q49.rd 9 rfl]
    refine st_set q49 0 rfl fun H50 q50 => ?_
    simp only [List.set_cons_zero, List.set_cons_succ] at q50
    simp -implicitDefEqProofs only [kz, kk0, kk1, kk2, kk3, ↓two_true, ↓two_false, mkv, aggAt, Nat.reduceLeDiff, Nat.reduceSub, Nat.reduceMul, implies_true, Nat.reduceEqDiff, reduceIte, Nat.reduceAdd, Nat.reduceBEq, reduceCtorEq, al26, bs22_1, bs22_2, ld26, st26, q50.rd 0 rfl, q50.rd 4 rfl, q50.rd 8 rfl, q50.rd 9 rfl]
    refine (l1Once_ok q50.cur).mono ?_
    rintro _ H51 ⟨⟨bb3, rfl⟩, hf19⟩
    have q51 := q50.call hf19
    simp -implicitDefEqProofs only [kz, kk0, kk1, kk2, kk3, ↓two_true, ↓two_false, mkv, aggAt, Nat.reduceLeDiff, Nat.reduceSub, Nat.reduceMul, implies_true, Nat.reduceEqDiff, reduceIte, Nat.reduceAdd, Nat.reduceBEq, reduceCtorEq, al26, bs22_1, bs22_2, ld26, st26, q51.rd 0 rfl, q51.rd 4 rfl, q51.rd 8 rfl, q51.rd 9 rfl]
    refine two_intro (fun u7 => ?_) (fun u7 => ?_)
    ·
      try simp -implicitDefEqProofs only [kz, kk0, kk1, kk2, kk3, ↓two_true, ↓two_false, mkv, aggAt, Nat.reduceLeDiff, Nat.reduceSub, Nat.reduceMul, implies_true, Nat.reduceEqDiff, reduceIte, Nat.reduceAdd, Nat.reduceBEq, reduceCtorEq, al26, bs22_1, bs22_2, ld26, st26, q51.rd 0 rfl, q51.rd 4 rfl, q51.rd 8 rfl, q51.rd 9 rfl]
      refine (l1Below_ok q51.cur).mono ?_
      rintro _ H52 ⟨⟨x6, rfl, -, hx6⟩, hf20⟩
      have q52 := q51.call hf20
      simp -implicitDefEqProofs only [kz, kk0, kk1, kk2, kk3, ↓two_true, ↓two_false, mkv, aggAt, Nat.reduceLeDiff, Nat.reduceSub, Nat.reduceMul, implies_true, Nat.reduceEqDiff, reduceIte, Nat.reduceAdd, Nat.reduceBEq, reduceCtorEq, al26, bs22_1, bs22_2, ld26, st26, q52.rd 0 rfl, q52.rd 4 rfl, q52.rd 8 rfl, q52.rd 9 rfl]
      refine st_lit [x1, x6] rfl rfl q52 fun H53 q53 => ?_
      simp -implicitDefEqProofs only [kz, kk0, kk1, kk2, kk3, ↓two_true, ↓two_false, mkv, aggAt, Nat.reduceLeDiff, Nat.reduceSub, Nat.reduceMul, implies_true, Nat.reduceEqDiff, reduceIte, Nat.reduceAdd, Nat.reduceBEq, reduceCtorEq, al26, bs22_1, bs22_2, ld26, st26, q53.rd 1 rfl, q53.rd 5 rfl, q53.rd 9 rfl, q53.rd 10 rfl]
      refine (l3Fill_ok q53.cur (q53.own 0 rfl) (q53.nc 0 rfl) (by first | omega | (simp; omega) | simp)).mono ?_
      rintro _ H54 ⟨⟨p19, p20, xd10, rfl, d10, n6, -⟩, hf21⟩
      have hl_xd10 : xd10.length ≤ 300 := by have := sizeI_le (l := [x1, x6]); omega
      have q54 := q53.da d10 hf21
      obtain ⟨a19, c19, rfl⟩ := (q54.own 0 rfl).isSlice
      obtain ⟨a20, c20, rfl⟩ := (q54.own 1 rfl).isSlice
      simp -implicitDefEqProofs only [kz, kk0, kk1, kk2, kk3, ↓two_true, ↓two_false, mkv, aggAt, Nat.reduceLeDiff, Nat.reduceSub, Nat.reduceMul, implies_true, Nat.reduceEqDiff, reduceIte, Nat.reduceAdd, Nat.reduceBEq, reduceCtorEq, al26, bs22_1, bs22_2, ld26, st26, q54.rd 3 rfl, q54.rd 7 rfl, q54.rd 11 rfl, q54.rd 12 rfl]
      refine st_set q54 3 rfl fun H55 q55 => ?_
      simp only [List.set_cons_zero, List.set_cons_succ] at q55
      simp -implicitDefEqProofs only [kz, kk0, kk1, kk2, kk3, ↓two_true, ↓two_false, mkv, aggAt, Nat.reduceLeDiff, Nat.reduceSub, Nat.reduceMul, implies_true, Nat.reduceEqDiff, reduceIte, Nat.reduceAdd, Nat.reduceBEq, reduceCtorEq, al26, bs22_1, bs22_2, ld26, st26, q55.rd 3 rfl, q55.rd 7 rfl, q55.rd 11 rfl, q55.rd 12 rfl]
      refine (l1Below_ok q55.cur).mono ?_
      rintro _ H56 ⟨⟨x7, rfl, -, hx7⟩, hf22⟩
      have q56 := q55.call hf22
      simp -implicitDefEqProofs only [kz, kk0, kk1, kk2, kk3, ↓two_true, ↓two_false, mkv, aggAt, Nat.reduceLeDiff, Nat.reduceSub, Nat.reduceMul, implies_true, Nat.reduceEqDiff, reduceIte, Nat.reduceAdd, Nat.reduceBEq, reduceCtorEq, al26, bs22_1, bs22_2, ld26, st26, q56.rd 3 rfl, q56.rd 7 rfl, q56.rd 11 rfl, q56.rd 12 rfl]
      refine two_intro (fun u8 => ?_) (fun u8 => ?_)
      ·
        try simp -implicitDefEqProofs only [kz, kk0, kk1, kk2, kk3, ↓two_true, ↓two_false, mkv, aggAt, Nat.reduceLeDiff, Nat.reduceSub, Nat.reduceMul, implies_true, Nat.reduceEqDiff, reduceIte, Nat.reduceAdd, Nat.reduceBEq, reduceCtorEq, al26, bs22_1, bs22_2, ld26, st26, q56.rd 3 rfl, q56.rd 7 rfl, q56.rd 11 rfl, q56.rd 12 rfl]
        refine (l3Draw_ok q56.cur).mono ?_
        rintro _ H57 ⟨⟨p21, p22, xs5, xd11, rfl, d11, m9, m10⟩, hf23⟩
        have q57 := q56.da d11 hf23
        obtain ⟨a21, c21, rfl⟩ := (q57.own 0 rfl).isSlice
        obtain ⟨a22, c22, rfl⟩ := (q57.own 1 rfl).isSlice
        simp -implicitDefEqProofs only [kz, kk0, kk1, kk2, kk3, ↓two_true, ↓two_false, mkv, aggAt, Nat.reduceLeDiff, Nat.reduceSub, Nat.reduceMul, implies_true, Nat.reduceEqDiff, reduceIte, Nat.reduceAdd, Nat.reduceBEq, reduceCtorEq, al26, bs22_1, bs22_2, ld26, st26, q57.rd 5 rfl, q57.rd 9 rfl, q57.rd 13 rfl, q57.rd 14 rfl]
        refine st_set q57 9 rfl fun H58 q58 => ?_
        simp only [List.set_cons_zero, List.set_cons_succ] at q58
        simp -implicitDefEqProofs only [kz, kk0, kk1, kk2, kk3, ↓two_true, ↓two_false, mkv, aggAt, Nat.reduceLeDiff, Nat.reduceSub, Nat.reduceMul, implies_true, Nat.reduceEqDiff, reduceIte, Nat.reduceAdd, Nat.reduceBEq, reduceCtorEq, al26, bs22_1, bs22_2, ld26, st26, q58.rd 5 rfl, q58.rd 9 rfl, q58.rd 13 rfl, q58.rd 14 rfl]
        refine st_set q58 14 rfl fun H59 q59 => ?_
        simp only [List.set_cons_zero, List.set_cons_succ] at q59
        simp -implicitDefEqProofs only [kz, kk0, kk1, kk2, kk3, ↓two_true, ↓two_false, mkv, aggAt, Nat.reduceLeDiff, Nat.reduceSub, Nat.reduceMul, implies_true, Nat.reduceEqDiff, reduceIte, Nat.reduceAdd, Nat.reduceBEq, reduceCtorEq, al26, bs22_1, bs22_2, ld26, st26, q59.rd 5 rfl, q59.rd 9 rfl, q59.rd 13 rfl, q59.rd 14 rfl, q58.rd 5 rfl, q58.rd 9 rfl, q58.rd 13 rfl, q58.rd 14 rfl]
        refine st_set q59 13 rfl fun H60 q60 => ?_
        simp only [List.set_cons_zero, List.set_cons_succ] at q60
        simp -implicitDefEqProofs only [kz, kk0, kk1, kk2, kk3, ↓two_true, ↓two_false, mkv, aggAt, Nat.reduceLeDiff, Nat.reduceSub, Nat.reduceMul, implies_true, Nat.reduceEqDiff, reduceIte, Nat.reduceAdd, Nat.reduceBEq, reduceCtorEq, al26, bs22_1, bs22_2, ld26, st26, q60.rd 5 rfl, q60.rd 9 rfl, q60.rd 13 rfl, q60.rd 14 rfl, q58.rd 5 rfl, q58.rd 9 rfl, q58.rd 13 rfl, q58.rd 14 rfl, q59.rd 5 rfl, q59.rd 9 rfl, q59.rd 13 rfl, q59.rd 14 rfl]
        -- end7
        exact ⟨s1, s2, _, _, xs5, xd11, _, _, [x1, x6], xd10, rfl, (q60.out hcb0).give [0, 1, 2, 3] (by decide) _ rfl, (by first | omega | (simp; omega) | simp), (by first | omega | (simp; omega) | simp), (by first | omega | (simp; omega) | simp), (by first | omega | (simp; omega) | simp)⟩
      ·
        try simp -implicitDefEqProofs only [kz, kk0, kk1, kk2, kk3, ↓two_true, ↓two_false, mkv, aggAt, Nat.reduceLeDiff, Nat.reduceSub, Nat.reduceMul, implies_true, Nat.reduceEqDiff, reduceIte, Nat.reduceAdd, Nat.reduceBEq, reduceCtorEq, al26, bs22_1, bs22_2, ld26, st26, q56.rd 3 rfl, q56.rd 7 rfl, q56.rd 11 rfl, q56.rd 12 rfl]
        refine two_intro (fun u9 => ?_) (fun u9 => ?_)
        ·
          try simp -implicitDefEqProofs only [kz, kk0, kk1, kk2, kk3, ↓two_true, ↓two_false, mkv, aggAt, Nat.reduceLeDiff, Nat.reduceSub, Nat.reduceMul, implies_true, Nat.reduceEqDiff, reduceIte, Nat.reduceAdd, Nat.reduceBEq, reduceCtorEq, al26, bs22_1, bs22_2, ld26, st26, q56.rd 3 rfl, q56.rd 7 rfl, q56.rd 11 rfl, q56.rd 12 rfl]
          refine (l3Draw_ok q56.cur).mono ?_
          rintro _ H61 ⟨⟨p23, p24, xs6, xd12, rfl, d12, m11, m12⟩, hf24⟩
          have q61 := q56.da d12 hf24
          obtain ⟨a23, c23, rfl⟩ := (q61.own 0 rfl).isSlice
          obtain ⟨a24, c24, rfl⟩ := (q61.own 1 rfl).isSlice
          simp -implicitDefEqProofs only [kz, kk0, kk1, kk2, kk3, ↓two_true, ↓two_false, mkv, aggAt, Nat.reduceLeDiff, Nat.reduceSub, Nat.reduceMul, implies_true, Nat.reduceEqDiff, reduceIte, Nat.reduceAdd, Nat.reduceBEq, reduceCtorEq, al26, bs22_1, bs22_2, ld26, st26, q61.rd 5 rfl, q61.rd 9 rfl, q61.rd 13 rfl, q61.rd 14 rfl]
          refine st_set q61 5 rfl fun H62 q62 => ?_
          simp only [List.set_cons_zero, List.set_cons_succ] at q62
          simp -implicitDefEqProofs only [kz, kk0, kk1, kk2, kk3, ↓two_true, ↓two_false, mkv, aggAt, Nat.reduceLeDiff, Nat.reduceSub, Nat.reduceMul, implies_true, Nat.reduceEqDiff, reduceIte, Nat.reduceAdd, Nat.reduceBEq, reduceCtorEq, al26, bs22_1, bs22_2, ld26, st26, q62.rd 5 rfl, q62.rd 9 rfl, q62.rd 13 rfl, q62.rd 14 rfl]
          refine st_set q62 14 rfl fun H63 q63 => ?_
          simp only [List.set_cons_zero, List.set_cons_succ] at q63
          simp -implicitDefEqProofs only [kz, kk0, kk1, kk2, kk3, ↓two_true, ↓two_false, mkv, aggAt, Nat.reduceLeDiff, Nat.reduceSub, Nat.reduceMul, implies_true, Nat.reduceEqDiff, reduceIte, Nat.reduceAdd, Nat.reduceBEq, reduceCtorEq, al26, bs22_1, bs22_2, ld26, st26, q63.rd 5 rfl, q63.rd 9 rfl, q63.rd 13 rfl, q63.rd 14 rfl, q62.rd 5 rfl, q62.rd 9 rfl, q62.rd 13 rfl, q62.rd 14 rfl]
          refine st_set q63 13 rfl fun H64 q64 => ?_
          simp only [List.set_cons_zero, List.set_cons_succ] at q64
          simp -implicitDefEqProofs only [kz, kk0, kk1, kk2, kk3, ↓two_true, ↓two_false, mkv, aggAt, Nat.reduceLeDiff, Nat.reduceSub, Nat.reduceMul, implies_true, Nat.reduceEqDiff, reduceIte, Nat.reduceAdd, Nat.reduceBEq, reduceCtorEq, al26, bs22_1, bs22_2, ld26, st26, q64.rd 5 rfl, q64.rd 9 rfl, q64.rd 13 rfl, q64.rd 14 rfl, q62.rd 5 rfl, q62.rd 9 rfl, q62.rd 13 rfl, q62.rd 14 rfl, q63.rd 5 rfl, q63.rd 9 rfl, q63.rd 13 rfl, q63.rd 14 rfl]
          -- end8
          exact ⟨s1, s2, _, _, [x1], xd1, _, _, xs6, xd12, rfl, (q64.out hcb0).give [10, 11, 0, 1] (by decide) _ rfl, (by first | omega | (simp; omega) | simp), (by first | omega | (simp; omega) | simp), (by first | omega | (simp; omega) | simp), (by first | omega | (simp; omega) | simp)⟩
        ·
          try simp -implicitDefEqProofs only [kz, kk0, kk1, kk2, kk3, ↓two_true, ↓two_false, mkv, aggAt, Nat.reduceLeDiff, Nat.reduceSub, Nat.reduceMul, implies_true, Nat.reduceEqDiff, reduceIte, Nat.reduceAdd, Nat.reduceBEq, reduceCtorEq, al26, bs22_1, bs22_2, ld26, st26, q56.rd 3 rfl, q56.rd 7 rfl, q56.rd 11 rfl, q56.rd 12 rfl]
          refine st_set q56 12 rfl fun H65 q65 => ?_
          simp only [List.set_cons_zero, List.set_cons_succ] at q65
          simp -implicitDefEqProofs only [kz, kk0, kk1, kk2, kk3, ↓two_true, ↓two_false, mkv, aggAt, Nat.reduceLeDiff, Nat.reduceSub, Nat.reduceMul, implies_true, Nat.reduceEqDiff, reduceIte, Nat.reduceAdd, Nat.reduceBEq, reduceCtorEq, al26, bs22_1, bs22_2, ld26, st26, q65.rd 3 rfl, q65.rd 7 rfl, q65.rd 11 rfl, q65.rd 12 rfl, q56.rd 3 rfl, q56.rd 7 rfl, q56.rd 11 rfl, q56.rd 12 rfl]
          refine st_set q65 11 rfl fun H66 q66 => ?_
          simp only [List.set_cons_zero, List.set_cons_succ] at q66
          simp -implicitDefEqProofs only [kz, kk0, kk1, kk2, kk3, ↓two_true, ↓two_false, mkv, aggAt, Nat.reduceLeDiff, Nat.reduceSub, Nat.reduceMul, implies_true, Nat.reduceEqDiff, reduceIte, Nat.reduceAdd, Nat.reduceBEq, reduceCtorEq, al26, bs22_1, bs22_2, ld26, st26, q66.rd 3 rfl, q66.rd 7 rfl, q66.rd 11 rfl, q66.rd 12 rfl, q56.rd 3 rfl, q56.rd 7 rfl, q56.rd 11 rfl, q56.rd 12 rfl, q65.rd 3 rfl, q65.rd 7 rfl, q65.rd 11 rfl, q65.rd 12 rfl]
          -- end9
          exact ⟨s1, s2, _, _, [x1], xd1, _, _, [x1, x6], xd10, rfl, (q66.out hcb0).give [8, 9, 0, 1] (by decide) _ rfl, (by first | omega | (simp; omega) | simp), (by first | omega | (simp; omega) | simp), (by first | omega | (simp; omega) | simp), (by first | omega | (simp; omega) | simp)⟩
    ·
      try simp -implicitDefEqProofs only [kz, kk0, kk1, kk2, kk3, ↓two_true, ↓two_false, mkv, aggAt, Nat.reduceLeDiff, Nat.reduceSub, Nat.reduceMul, implies_true, Nat.reduceEqDiff, reduceIte, Nat.reduceAdd, Nat.reduceBEq, reduceCtorEq, al26, bs22_1, bs22_2, ld26, st26, q51.rd 0 rfl, q51.rd 4 rfl, q51.rd 8 rfl, q51.rd 9 rfl]
      refine (l1Below_ok q51.cur).mono ?_
      rintro _ H67 ⟨⟨x8, rfl, -, hx8⟩, hf25⟩
      have q67 := q51.call hf25
      simp -implicitDefEqProofs only [kz, kk0, kk1, kk2, kk3, ↓two_true, ↓two_false, mkv, aggAt, Nat.reduceLeDiff, Nat.reduceSub, Nat.reduceMul, implies_true, Nat.reduceEqDiff, reduceIte, Nat.reduceAdd, Nat.reduceBEq, reduceCtorEq, al26, bs22_1, bs22_2, ld26, st26, q67.rd 0 rfl, q67.rd 4 rfl, q67.rd 8 rfl, q67.rd 9 rfl]
      refine two_intro (fun u10 => ?_) (fun u10 => ?_)
      ·
        try simp -implicitDefEqProofs only [kz, kk0, kk1, kk2, kk3, ↓two_true, ↓two_false, mkv, aggAt, Nat.reduceLeDiff, Nat.reduceSub, Nat.reduceMul, implies_true, Nat.reduceEqDiff, reduceIte, Nat.reduceAdd, Nat.reduceBEq, reduceCtorEq, al26, bs22_1, bs22_2, ld26, st26, q67.rd 0 rfl, q67.rd 4 rfl, q67.rd 8 rfl, q67.rd 9 rfl]
        refine (l3Draw_ok q67.cur).mono ?_
        rintro _ H68 ⟨⟨p25, p26, xs7, xd13, rfl, d13, m13, m14⟩, hf26⟩
        have q68 := q67.da d13 hf26
        obtain ⟨a25, c25, rfl⟩ := (q68.own 0 rfl).isSlice
        obtain ⟨a26, c26, rfl⟩ := (q68.own 1 rfl).isSlice
        simp -implicitDefEqProofs only [kz, kk0, kk1, kk2, kk3, ↓two_true, ↓two_false, mkv, aggAt, Nat.reduceLeDiff, Nat.reduceSub, Nat.reduceMul, implies_true, Nat.reduceEqDiff, reduceIte, Nat.reduceAdd, Nat.reduceBEq, reduceCtorEq, al26, bs22_1, bs22_2, ld26, st26, q68.rd 2 rfl, q68.rd 6 rfl, q68.rd 10 rfl, q68.rd 11 rfl]
        refine st_set q68 6 rfl fun H69 q69 => ?_
        simp only [List.set_cons_zero, List.set_cons_succ] at q69
        simp -implicitDefEqProofs only [kz, kk0, kk1, kk2, kk3, ↓two_true, ↓two_false, mkv, aggAt, Nat.reduceLeDiff, Nat.reduceSub, Nat.reduceMul, implies_true, Nat.reduceEqDiff, reduceIte, Nat.reduceAdd, Nat.reduceBEq, reduceCtorEq, al26, bs22_1, bs22_2, ld26, st26, q69.rd 2 rfl, q69.rd 6 rfl, q69.rd 10 rfl, q69.rd 11 rfl]
        refine st_set q69 11 rfl fun H70 q70 => ?_
        simp only [List.set_cons_zero, List.set_cons_succ] at q70
        simp -implicitDefEqProofs only [kz, kk0, kk1, kk2, kk3, ↓two_true, ↓two_false, mkv, aggAt, Nat.reduceLeDiff, Nat.reduceSub, Nat.reduceMul, implies_true, Nat.reduceEqDiff, reduceIte, Nat.reduceAdd, Nat.reduceBEq, reduceCtorEq, al26, bs22_1, bs22_2, ld26, st26, q70.rd 2 rfl, q70.rd 6 rfl, q70.rd 10 rfl, q70.rd 11 rfl, q69.rd 2 rfl, q69.rd 6 rfl, q69.rd 10 rfl, q69.rd 11 rfl]
        refine st_set q70 10 rfl fun H71 q71 => ?_
        simp only [List.set_cons_zero, List.set_cons_succ] at q71
        simp -implicitDefEqProofs only [kz, kk0, kk1, kk2, kk3, ↓two_true, ↓two_false, mkv, aggAt, Nat.reduceLeDiff, Nat.reduceSub, Nat.reduceMul, implies_true, Nat.reduceEqDiff, reduceIte, Nat.reduceAdd, Nat.reduceBEq, reduceCtorEq, al26, bs22_1, bs22_2, ld26, st26, q71.rd 2 rfl, q71.rd 6 rfl, q71.rd 10 rfl, q71.rd 11 rfl, q69.rd 2 rfl, q69.rd 6 rfl, q69.rd 10 rfl, q69.rd 11 rfl, q70.rd 2 rfl, q70.rd 6 rfl, q70.rd 10 rfl, q70.rd 11 rfl]
        -- end10
        exact ⟨s1, s2, _, _, xs7, xd13, _, _, [x1], xd9, rfl, (q71.out hcb0).give [0, 1, 3, 4] (by decide) _ rfl, (by first | omega | (simp; omega) | simp), (by first | omega | (simp; omega) | simp), (by first | omega | (simp; omega) | simp), (by first | omega | (simp; omega) | simp)⟩
      ·
        try simp -implicitDefEqProofs only [kz, kk0, kk1, kk2, kk3, ↓two_true, ↓two_false, mkv, aggAt, Nat.reduceLeDiff, Nat.reduceSub, Nat.reduceMul, implies_true, Nat.reduceEqDiff, reduceIte, Nat.reduceAdd, Nat.reduceBEq, reduceCtorEq, al26, bs22_1, bs22_2, ld26, st26, q67.rd 0 rfl, q67.rd 4 rfl, q67.rd 8 rfl, q67.rd 9 rfl]
        refine two_intro (fun u11 => ?_) (fun u11 => ?_)
        ·
          try simp -implicitDefEqProofs only [kz, kk0, kk1, kk2, kk3, ↓two_true, ↓two_false, mkv, aggAt, Nat.reduceLeDiff, Nat.reduceSub, Nat.reduceMul, implies_true, Nat.reduceEqDiff, reduceIte, Nat.reduceAdd, Nat.reduceBEq, reduceCtorEq, al26, bs22_1, bs22_2, ld26, st26, q67.rd 0 rfl, q67.rd 4 rfl, q67.rd 8 rfl, q67.rd 9 rfl]
          refine (l3Draw_ok q67.cur).mono ?_
          rintro _ H72 ⟨⟨p27, p28, xs8, xd14, rfl, d14, m15, m16⟩, hf27⟩
          have q72 := q67.da d14 hf27
          obtain ⟨a27, c27, rfl⟩ := (q72.own 0 rfl).isSlice
          obtain ⟨a28, c28, rfl⟩ := (q72.own 1 rfl).isSlice
          simp -implicitDefEqProofs only [kz, kk0, kk1, kk2, kk3, ↓two_true, ↓two_false, mkv, aggAt, Nat.reduceLeDiff, Nat.reduceSub, Nat.reduceMul, implies_true, Nat.reduceEqDiff, reduceIte, Nat.reduceAdd, Nat.reduceBEq, reduceCtorEq, al26, bs22_1, bs22_2, ld26, st26, q72.rd 2 rfl, q72.rd 6 rfl, q72.rd 10 rfl, q72.rd 11 rfl]
          refine st_set q72 2 rfl fun H73 q73 => ?_
          simp only [List.set_cons_zero, List.set_cons_succ] at q73
          simp -implicitDefEqProofs only [kz, kk0, kk1, kk2, kk3, ↓two_true, ↓two_false, mkv, aggAt, Nat.reduceLeDiff, Nat.reduceSub, Nat.reduceMul, implies_true, Nat.reduceEqDiff, reduceIte, Nat.reduceAdd, Nat.reduceBEq, reduceCtorEq, al26, bs22_1, bs22_2, ld26, st26, q73.rd 2 rfl, q73.rd 6 rfl, q73.rd 10 rfl, q73.rd 11 rfl]
          refine st_set q73 11 rfl fun H74 q74 => ?_
          simp only [List.set_cons_zero, List.set_cons_succ] at q74
          simp -implicitDefEqProofs only [kz, kk0, kk1, kk2, kk3, ↓two_true, ↓two_false, mkv, aggAt, Nat.reduceLeDiff, Nat.reduceSub, Nat.reduceMul, implies_true, Nat.reduceEqDiff, reduceIte, Nat.reduceAdd, Nat.reduceBEq, reduceCtorEq, al26, bs22_1, bs22_2, ld26, st26, q74.rd 2 rfl, q74.rd 6 rfl, q74.rd 10 rfl, q74.rd 11 rfl, q73.rd 2 rfl, q73.rd 6 rfl, q73.rd 10 rfl, q73.rd 11 rfl]
          refine st_set q74 10 rfl fun H75 q75 => ?_
          simp only [List.set_cons_zero, List.set_cons_succ] at q75
          simp -implicitDefEqProofs only [kz, kk0, kk1, kk2, kk3, ↓two_true, ↓two_false, mkv, aggAt, Nat.reduceLeDiff, Nat.reduceSub, Nat.reduceMul, implies_true, Nat.reduceEqDiff, reduceIte, Nat.reduceAdd, Nat.reduceBEq, reduceCtorEq, al26, bs22_1, bs22_2, ld26, st26, q75.rd 2 rfl, q75.rd 6 rfl, q75.rd 10 rfl, q75.rd 11 rfl, q73.rd 2 rfl, q73.rd 6 rfl, q73.rd 10 rfl, q73.rd 11 rfl, q74.rd 2 rfl, q74.rd 6 rfl, q74.rd 10 rfl, q74.rd 11 rfl]
          -- end11
          exact ⟨s1, s2, _, _, [x1], xd1, _, _, xs8, xd14, rfl, (q75.out hcb0).give [7, 8, 0, 1] (by decide) _ rfl, (by first | omega | (simp; omega) | simp), (by first | omega | (simp; omega) | simp), (by first | omega | (simp; omega) | simp), (by first | omega | (simp; omega) | simp)⟩
        ·
          try simp -implicitDefEqProofs only [kz, kk0, kk1, kk2, kk3, ↓two_true, ↓two_false, mkv, aggAt, Nat.reduceLeDiff, Nat.reduceSub, Nat.reduceMul, implies_true, Nat.reduceEqDiff, reduceIte, Nat.reduceAdd, Nat.reduceBEq, reduceCtorEq, al26, bs22_1, bs22_2, ld26, st26, q67.rd 0 rfl, q67.rd 4 rfl, q67.rd 8 rfl, q67.rd 9 rfl]
          refine st_set q67 9 rfl fun H76 q76 => ?_
          simp only [List.set_cons_zero, List.set_cons_succ] at q76
          simp -implicitDefEqProofs only [kz, kk0, kk1, kk2, kk3, ↓two_true, ↓two_false, mkv, aggAt, Nat.reduceLeDiff, Nat.reduceSub, Nat.reduceMul, implies_true, Nat.reduceEqDiff, reduceIte, Nat.reduceAdd, Nat.reduceBEq, reduceCtorEq, al26, bs22_1, bs22_2, ld26, st26, q76.rd 0 rfl, q76.rd 4 rfl, q76.rd 8 rfl, q76.rd 9 rfl, q67.rd 0 rfl, q67.rd 4 rfl, q67.rd 8 rfl, q67.rd 9 rfl]
          refine st_set q76 8 rfl fun H77 q77 => ?_
          simp only [List.set_cons_zero, List.set_cons_succ] at q77
          simp -implicitDefEqProofs only [kz, kk0, kk1, kk2, kk3, ↓two_true, ↓two_false, mkv, aggAt, Nat.reduceLeDiff, Nat.reduceSub, Nat.reduceMul, implies_true, Nat.reduceEqDiff, reduceIte, Nat.reduceAdd, Nat.reduceBEq, reduceCtorEq, al26, bs22_1, bs22_2, ld26, st26, q77.rd 0 rfl, q77.rd 4 rfl, q77.rd 8 rfl, q77.rd 9 rfl, q67.rd 0 rfl, q67.rd 4 rfl, q67.rd 8 rfl, q67.rd 9 rfl, q76.rd 0 rfl, q76.rd 4 rfl, q76.rd 8 rfl, q76.rd 9 rfl]
          -- end12
          exact ⟨s1, s2, _, _, [x1], xd1, _, _, [x1], xd9, rfl, (q77.out hcb0).give [5, 6, 1, 2] (by decide) _ rfl, (by first | omega | (simp; omega) | simp), (by first | omega | (simp; omega) | simp), (by first | omega | (simp; omega) | simp), (by first | omega | (simp; omega) | simp)⟩

theorem implVectorOf_ok {H : AH} {va : Value} {la : List Int} (ha : IntRow H va la) (hl : la.length ≤ 300) (hn : arrOk [(la.length : Int)] la = true) : CallsA Try.prog 31 #[va] H fun r H' => ∃ p q, r = .tuple #[.agg #[p, q], .bool true] ∧ LD none H H' [.row p [(la.length : Int)], .row q la] := by
  obtain ⟨xa, xc, rfl, -⟩ := ha.op
  have q := (LX.nil (H := H))
  refine w31 ?_
  unfold k31
  simp -implicitDefEqProofs only [kz, kk0, kk1, kk2, kk3, ↓two_true, ↓two_false, mkv, aggAt, Nat.reduceLeDiff, Nat.reduceSub, Nat.reduceMul, implies_true, Nat.reduceEqDiff, reduceIte, Nat.reduceAdd, Nat.reduceBEq, reduceCtorEq, al26, bd26, ld26, st26, hn, Bool.not_true]
  refine st_box q fun H1 q1 => ?_
  simp -implicitDefEqProofs only [kz, kk0, kk1, kk2, kk3, ↓two_true, ↓two_false, mkv, aggAt, Nat.reduceLeDiff, Nat.reduceSub, Nat.reduceMul, implies_true, Nat.reduceEqDiff, reduceIte, Nat.reduceAdd, Nat.reduceBEq, reduceCtorEq, al26, bd26, ld26, st26, hn, Bool.not_true, q1.rd 0 rfl]
  refine (vector_ok (ha.ext q1.ext) (by omega) ).mono ?_
  rintro _ H2 ⟨p1, p2, rfl, g1⟩
  have q2 := q1.join g1
  simp only [List.map_cons, List.map_nil, List.cons_append, List.nil_append] at q2
  obtain ⟨a1, c1, rfl⟩ := (q2.own 0 rfl).isSlice
  obtain ⟨a2, c2, rfl⟩ := (q2.own 1 rfl).isSlice
  simp -implicitDefEqProofs only [kz, kk0, kk1, kk2, kk3, ↓two_true, ↓two_false, mkv, aggAt, Nat.reduceLeDiff, Nat.reduceSub, Nat.reduceMul, implies_true, Nat.reduceEqDiff, reduceIte, Nat.reduceAdd, Nat.reduceBEq, reduceCtorEq, al26, bd26, ld26, st26, hn, Bool.not_true, q2.rd 2 rfl]
  refine st_box q2 fun H3 q3 => ?_
  simp -implicitDefEqProofs only [kz, kk0, kk1, kk2, kk3, ↓two_true, ↓two_false, mkv, aggAt, Nat.reduceLeDiff, Nat.reduceSub, Nat.reduceMul, implies_true, Nat.reduceEqDiff, reduceIte, Nat.reduceAdd, Nat.reduceBEq, reduceCtorEq, al26, bd26, ld26, st26, hn, Bool.not_true, q3.rd 0 rfl, q3.rd 3 rfl]
  refine st_set q3 0 rfl fun H4 q4 => ?_
  simp only [List.set_cons_zero, List.set_cons_succ] at q4
  simp -implicitDefEqProofs only [kz, kk0, kk1, kk2, kk3, ↓two_true, ↓two_false, mkv, aggAt, Nat.reduceLeDiff, Nat.reduceSub, Nat.reduceMul, implies_true, Nat.reduceEqDiff, reduceIte, Nat.reduceAdd, Nat.reduceBEq, reduceCtorEq, al26, bd26, ld26, st26, hn, Bool.not_true, q4.rd 0 rfl, q4.rd 3 rfl]
  refine (implOk_ar (q4.ar 1 2 rfl rfl (by (try simp only [List.length_cons, List.length_nil, List.length_append, List.length_replicate, List.length_map, List.length_take, List.length_drop]); omega) (by (try simp only [List.length_cons, List.length_nil, List.length_append, List.length_replicate, List.length_map, List.length_take, List.length_drop]); omega))).mono ?_
  rintro _ H5 ⟨rfl, he1⟩
  have q5 := q4.extd he1
  simp -implicitDefEqProofs only [kz, kk0, kk1, kk2, kk3, ↓two_true, ↓two_false, mkv, aggAt, Nat.reduceLeDiff, Nat.reduceSub, Nat.reduceMul, implies_true, Nat.reduceEqDiff, reduceIte, Nat.reduceAdd, Nat.reduceBEq, reduceCtorEq, al26, bd26, ld26, st26, hn, Bool.not_true, q5.rd 0 rfl, q5.rd 3 rfl]
  refine st_set q5 3 rfl fun H6 q6 => ?_
  simp only [List.set_cons_zero, List.set_cons_succ] at q6
  simp -implicitDefEqProofs only [kz, kk0, kk1, kk2, kk3, ↓two_true, ↓two_false, mkv, aggAt, Nat.reduceLeDiff, Nat.reduceSub, Nat.reduceMul, implies_true, Nat.reduceEqDiff, reduceIte, Nat.reduceAdd, Nat.reduceBEq, reduceCtorEq, al26, bd26, ld26, st26, hn, Bool.not_true, q6.rd 0 rfl, q6.rd 3 rfl]
  -- end1
  exact ⟨_, _, rfl, q6.give [1, 2] (by decide) _ rfl⟩

theorem cast1 : ((1 : Nat) : Int) = 1 := rfl
theorem firstC_zero {l : List Int} (h : firstC l = 0) : ∀ c ∈ l, c = 0 := by
  induction l with
  | nil => intro c hc; simp at hc
  | cons x l ih =>
    rw [firstC_cons] at h
    split at h
    · rename_i hx
      intro c hc
      rcases List.mem_cons.1 hc with e | e
      · rw [e]; exact hx
      · exact ih h c e
    · rename_i hx; exact absurd h hx
theorem arrOk_v {l : List Int} {m : Nat} (hl : l.length = m) (hm : m ≤ 300) (hn : l.all numOk = true) : arrOk [(m : Int)] l = true := by
  unfold arrOk
  simp only [Bool.and_eq_true, beq_iff_eq]
  exact ⟨by rw [sizeI_one hm, hl], hn⟩
theorem each2R_vec {s : Int} {la lb : List Int} {m : Nat} (hs : sg2 s = true) (hm : m ≤ 300) (ha : la.length = m) (hb : lb.length = m) (na : la.all numOk = true) (nb : lb.all numOk = true) (hC : dotC s (fun k => la.getD k 0) (fun k => lb.getD k 0) m = 0) :
    each2R s [(m : Int)] la [(m : Int)] lb = (([(m : Int)], dotL s (fun k => la.getD k 0) (fun k => lb.getD k 0) m), 0) := by
  have oa := arrOk_v ha hm na
  have ob := arrOk_v hb hm nb
  have hF : fitR [(m : Int)] la [(m : Int)] lb = ([(m : Int)], 0) := by unfold fitR; rw [oa, ob]; simp
  have e1 : (sizeI [(m : Int)]).toNat = m := by rw [sizeI_one hm]; simp
  have eC : each2C s [(m : Int)] la [(m : Int)] lb m = 0 := hC
  unfold each2R
  rw [oa, ob, hs, hF]
  simp only [Bool.and_self, if_true, e1]
  rw [if_pos eC]
  rfl
theorem dot_both {f g : Int} {A B : Nat → Int} {m : Nat} (h : (dotR f g A B m).2 = 0) : dotC g A B m = 0 ∧ (redN f (dotL g A B m)).2 = 0 ∧ (dotR f g A B m).1 = (redN f (dotL g A B m)).1 := by
  unfold dotR at h ⊢
  by_cases h1 : dotC g A B m = 0
  · rw [if_pos h1] at h ⊢
    by_cases h2 : (redN f (dotL g A B m)).2 = 0
    · rw [if_pos h2]; exact ⟨h1, h2, rfl⟩
    · rw [if_neg h2] at h; exact absurd h h2
  · rw [if_neg h1] at h; exact absurd h h1
theorem innR_err {f g : Int} {sa da sb db : List Int} {R : (List Int × List Int) × Int} (hR : innR f g sa da sb db = R) (h : R.2 ≠ 0) : R.1.2 = [] := by
  unfold innR at hR
  repeat' split at hR
  all_goals subst hR
  all_goals first | rfl | exact absurd rfl h
theorem innR_ok {f g : Int} {sa da sb db : List Int} {R : (List Int × List Int) × Int} (hR : innR f g sa da sb db = R) (h : R.2 = 0) : arrOk sa da = true ∧ arrOk sb db = true ∧ sg2 f = true ∧ sg2 g = true ∧ (1 ≤ sa.length ∧ sa.length ≤ 2 ∧ 1 ≤ sb.length ∧ sb.length ≤ 2) ∧ sa.getD (sa.length - 1) 0 = sb.headD 0 ∧ 0 ≤ sizeI (innS sa sb) ∧ innC f g sb da db (sizeI (innS sa sb)).toNat = 0 ∧ R = ((innS sa sb, innD f g sb da db (sizeI (innS sa sb)).toNat), 0) := by
  unfold innR at hR
  split at hR
  · rename_i h1
    simp only [Bool.and_eq_true] at h1
    split at hR
    · subst hR; exact absurd h (show ¬ ((4 : Int) = 0) by decide)
    · rename_i h2
      split at hR
      · subst hR; exact absurd h (show ¬ ((3 : Int) = 0) by decide)
      · rename_i h3
        split at hR
        · subst hR; exact absurd h (show ¬ ((6 : Int) = 0) by decide)
        · rename_i h4
          split at hR
          · rename_i h5
            exact ⟨h1.1.1.1, h1.1.1.2, h1.1.2, h1.2, Decidable.not_not.1 h2, Decidable.not_not.1 h3, by omega, h5, hR.symm⟩
          · rename_i h5
            subst hR; exact absurd h h5
  · subst hR; exact absurd h (show ¬ ((1 : Int) = 0) by decide)
theorem dotR_num {f g : Int} {A B : Nat → Int} {m : Nat} : numOk (dotR f g A B m).1 = true := by
  unfold dotR
  split
  · split
    · unfold redN
      split
      · exact neuF_num
      · rename_i h; exact redV_num dotL_num (by intro e; rw [e] at h; exact h rfl)
    · exact (show numOk 0 = true by decide)
  · exact (show numOk 0 = true by decide)
theorem inn_arrOk {f g : Int} {sa da sb db : List Int} (h : 0 ≤ sizeI (innS sa sb)) : arrOk (innS sa sb) (innD f g sb da db (sizeI (innS sa sb)).toNat) = true := by
  unfold arrOk
  simp only [Bool.and_eq_true, beq_iff_eq]
  refine ⟨by rw [innD_len]; omega, List.all_eq_true.2 fun x hx => ?_⟩
  obtain ⟨j, -, rfl⟩ := List.mem_map.1 hx
  exact dotR_num
theorem slc_num {da : List Int} {a b : Nat} (h : da.all numOk = true) : ((da.drop a).take b).all numOk = true := List.all_eq_true.2 fun x hx => List.all_eq_true.1 h x (List.mem_of_mem_drop (List.mem_of_mem_take hx))
theorem col_num {sb db : List Int} {r i m : Nat} (h : db.all numOk = true) (hl : ∀ k, k < m → k * r + i % r < db.length) : (colL sb db r i m).all numOk = true := by
  refine List.all_eq_true.2 fun x hx => ?_
  obtain ⟨k, hk, rfl⟩ := List.mem_map.1 hx
  rw [getD_lt (hl k (List.mem_range.1 hk))]
  exact List.all_eq_true.1 h _ (List.getElem_mem _)

theorem implVectorOf_m {H : AH} {va : Value} {la : List Int} {m : Nat} (ha : IntRow H va la) (hm : la.length = m) (hl : m ≤ 300) (hn : arrOk [(m : Int)] la = true) : CallsA Try.prog 31 #[va] H fun r H' => ∃ p q, r = .tuple #[.agg #[p, q], .bool true] ∧ LD none H H' [.row p [(m : Int)], .row q la] := by
  subst hm; exact implVectorOf_ok ha hl hn

end Go.Proofs.Ytmlimgdpcoloiaa.AM
