/- What the functions answer, part 4. -/
import Derived.Test.YtmlimgdpcoloiaaP3
set_option linter.unusedVariables false
set_option linter.unusedSimpArgs false
set_option linter.defProp false
set_option maxRecDepth 100000
/- What the functions answer, part 4. -/
namespace Go.Proofs.Ytmlimgdpcoloiaa.AM
open Go Go.Proofs.Ytmlimgdpcoloiaa Go.Proofs
theorem implReduce_ok {H : AH} {s : Int} {pa qa : Value} {sa da : List Int} (a : AR H pa qa sa da) (hsz : (rowsR sa da).length = 0 → 0 ≤ sizeI sa.tail) : CallsA Try.prog 25 #[.int .i64 s, .agg #[pa, qa]] H fun r H' => Ans1 H H' r (reduceR s sa da) := by
  have al := a.l1
  have bl := a.l2
  obtain ⟨za, zc, zb, zd, rfl, rfl⟩ := a.o1
  have q := (LX.nil (H := H))
  refine w25 ?_
  unfold k25
  simp -implicitDefEqProofs only [kz, kk0, kk1, kk2, kk3, ↓two_true, ↓two_false, mkv, aggAt, Nat.reduceLeDiff, Nat.reduceSub, Nat.reduceMul, implies_true, Nat.reduceEqDiff, reduceIte, Nat.reduceAdd, Nat.reduceBEq, reduceCtorEq, al26, bd26, fa26_0, ld22, ld26, ln22, sn22, sl22, st26, twoSign_eq]
  refine st_box q fun H1 q1 => ?_
  simp -implicitDefEqProofs only [kz, kk0, kk1, kk2, kk3, ↓two_true, ↓two_false, mkv, aggAt, Nat.reduceLeDiff, Nat.reduceSub, Nat.reduceMul, implies_true, Nat.reduceEqDiff, reduceIte, Nat.reduceAdd, Nat.reduceBEq, reduceCtorEq, al26, bd26, fa26_0, ld22, ld26, ln22, sn22, sl22, st26, twoSign_eq, q1.rd 0 rfl]
  refine st_box q1 fun H2 q2 => ?_
  simp -implicitDefEqProofs only [kz, kk0, kk1, kk2, kk3, ↓two_true, ↓two_false, mkv, aggAt, Nat.reduceLeDiff, Nat.reduceSub, Nat.reduceMul, implies_true, Nat.reduceEqDiff, reduceIte, Nat.reduceAdd, Nat.reduceBEq, reduceCtorEq, al26, bd26, fa26_0, ld22, ld26, ln22, sn22, sl22, st26, twoSign_eq, q2.rd 0 rfl, q2.rd 1 rfl]
  refine (implOk_ar (a.ext q2.ext)).mono ?_
  rintro _ H3 ⟨rfl, he1⟩
  have q3 := q2.extd he1
  simp -implicitDefEqProofs only [kz, kk0, kk1, kk2, kk3, ↓two_true, ↓two_false, mkv, aggAt, Nat.reduceLeDiff, Nat.reduceSub, Nat.reduceMul, implies_true, Nat.reduceEqDiff, reduceIte, Nat.reduceAdd, Nat.reduceBEq, reduceCtorEq, al26, bd26, fa26_0, ld22, ld26, ln22, sn22, sl22, st26, twoSign_eq, q3.rd 0 rfl, q3.rd 1 rfl]
  refine two_intro (fun u1 => ?_) (fun u1 => ?_)
  ·
    try simp -implicitDefEqProofs only [kz, kk0, kk1, kk2, kk3, ↓two_true, ↓two_false, mkv, aggAt, Nat.reduceLeDiff, Nat.reduceSub, Nat.reduceMul, implies_true, Nat.reduceEqDiff, reduceIte, Nat.reduceAdd, Nat.reduceBEq, reduceCtorEq, al26, bd26, fa26_0, ld22, ld26, ln22, sn22, sl22, st26, twoSign_eq, q3.rd 0 rfl, q3.rd 1 rfl]
    refine st_set q3 0 rfl fun H4 q4 => ?_
    simp only [List.set_cons_zero, List.set_cons_succ] at q4
    simp -implicitDefEqProofs only [kz, kk0, kk1, kk2, kk3, ↓two_true, ↓two_false, mkv, aggAt, Nat.reduceLeDiff, Nat.reduceSub, Nat.reduceMul, implies_true, Nat.reduceEqDiff, reduceIte, Nat.reduceAdd, Nat.reduceBEq, reduceCtorEq, al26, bd26, fa26_0, ld22, ld26, ln22, sn22, sl22, st26, twoSign_eq, q4.rd 0 rfl, q4.rd 1 rfl]
    -- end1
    exact q4.err (by simp [reduceR, show arrOk sa da = false by simpa using u1])
  ·
    have v1 : arrOk sa da = true := by simpa using u1
    try simp -implicitDefEqProofs only [kz, kk0, kk1, kk2, kk3, ↓two_true, ↓two_false, mkv, aggAt, Nat.reduceLeDiff, Nat.reduceSub, Nat.reduceMul, implies_true, Nat.reduceEqDiff, reduceIte, Nat.reduceAdd, Nat.reduceBEq, reduceCtorEq, al26, bd26, fa26_0, ld22, ld26, ln22, sn22, sl22, st26, twoSign_eq, q3.rd 0 rfl, q3.rd 1 rfl]
    refine two_intro (fun u2 => ?_) (fun u2 => ?_)
    ·
      try simp -implicitDefEqProofs only [kz, kk0, kk1, kk2, kk3, ↓two_true, ↓two_false, mkv, aggAt, Nat.reduceLeDiff, Nat.reduceSub, Nat.reduceMul, implies_true, Nat.reduceEqDiff, reduceIte, Nat.reduceAdd, Nat.reduceBEq, reduceCtorEq, al26, bd26, fa26_0, ld22, ld26, ln22, sn22, sl22, st26, twoSign_eq, q3.rd 0 rfl, q3.rd 1 rfl]
      refine st_set q3 0 rfl fun H5 q5 => ?_
      simp only [List.set_cons_zero, List.set_cons_succ] at q5
      simp -implicitDefEqProofs only [kz, kk0, kk1, kk2, kk3, ↓two_true, ↓two_false, mkv, aggAt, Nat.reduceLeDiff, Nat.reduceSub, Nat.reduceMul, implies_true, Nat.reduceEqDiff, reduceIte, Nat.reduceAdd, Nat.reduceBEq, reduceCtorEq, al26, bd26, fa26_0, ld22, ld26, ln22, sn22, sl22, st26, twoSign_eq, q5.rd 0 rfl, q5.rd 1 rfl]
      -- end2
      exact q5.err (by simp [reduceR, show sg2 s = false by simpa using u2])
    ·
      have v2 : sg2 s = true := by simpa using u2
      try simp -implicitDefEqProofs only [kz, kk0, kk1, kk2, kk3, ↓two_true, ↓two_false, mkv, aggAt, Nat.reduceLeDiff, Nat.reduceSub, Nat.reduceMul, implies_true, Nat.reduceEqDiff, reduceIte, Nat.reduceAdd, Nat.reduceBEq, reduceCtorEq, al26, bd26, fa26_0, ld22, ld26, ln22, sn22, sl22, st26, twoSign_eq, q3.rd 0 rfl, q3.rd 1 rfl]
      refine two_intro (fun u3 => ?_) (fun u3 => ?_)
      ·
        have v3 : sa.length = 0 := by simpa using u3
        try simp -implicitDefEqProofs only [kz, kk0, kk1, kk2, kk3, ↓two_true, ↓two_false, mkv, aggAt, Nat.reduceLeDiff, Nat.reduceSub, Nat.reduceMul, implies_true, Nat.reduceEqDiff, reduceIte, Nat.reduceAdd, Nat.reduceBEq, reduceCtorEq, al26, bd26, fa26_0, ld22, ld26, ln22, sn22, sl22, st26, twoSign_eq, q3.rd 0 rfl, q3.rd 1 rfl]
        refine (copyA_ok (a.ext q3.ext)).mono ?_
        rintro _ H6 ⟨p1, p2, rfl, g1⟩
        have q6 := q3.join g1
        simp only [List.map_cons, List.map_nil, List.cons_append, List.nil_append] at q6
        obtain ⟨a1, c1, rfl⟩ := (q6.own 0 rfl).isSlice
        obtain ⟨a2, c2, rfl⟩ := (q6.own 1 rfl).isSlice
        simp -implicitDefEqProofs only [kz, kk0, kk1, kk2, kk3, ↓two_true, ↓two_false, mkv, aggAt, Nat.reduceLeDiff, Nat.reduceSub, Nat.reduceMul, implies_true, Nat.reduceEqDiff, reduceIte, Nat.reduceAdd, Nat.reduceBEq, reduceCtorEq, al26, bd26, fa26_0, ld22, ld26, ln22, sn22, sl22, st26, twoSign_eq, q6.rd 2 rfl, q6.rd 3 rfl]
        refine st_set q6 2 rfl fun H7 q7 => ?_
        simp only [List.set_cons_zero, List.set_cons_succ] at q7
        simp -implicitDefEqProofs only [kz, kk0, kk1, kk2, kk3, ↓two_true, ↓two_false, mkv, aggAt, Nat.reduceLeDiff, Nat.reduceSub, Nat.reduceMul, implies_true, Nat.reduceEqDiff, reduceIte, Nat.reduceAdd, Nat.reduceBEq, reduceCtorEq, al26, bd26, fa26_0, ld22, ld26, ln22, sn22, sl22, st26, twoSign_eq, q7.rd 2 rfl, q7.rd 3 rfl]
        -- end3
        exact q7.ans 0 1 (by decide) rfl rfl (by unfold reduceR; rw [v1, v2, if_pos (by rfl), if_pos v3])
      ·
        have v3 : sa.length ≠ 0 := by simpa using u3
        obtain ⟨m1, m2, m3⟩ := rowsR_lim v1 v3
        have hsl3 : sa.length ≤ 3 := (sizeI_ok (by have := (arrOk_size v1).1; omega)).1
        have htl : sa.tail.length ≤ 3 := by simp; omega
        try simp -implicitDefEqProofs only [kz, kk0, kk1, kk2, kk3, ↓two_true, ↓two_false, mkv, aggAt, Nat.reduceLeDiff, Nat.reduceSub, Nat.reduceMul, implies_true, Nat.reduceEqDiff, reduceIte, Nat.reduceAdd, Nat.reduceBEq, reduceCtorEq, al26, bd26, fa26_0, ld22, ld26, ln22, sn22, sl22, st26, twoSign_eq, q3.rd 0 rfl, q3.rd 1 rfl]
        refine (implRows_ok (a.ext q3.ext)).mono ?_
        rintro rv1 H8 ⟨⟨ys1, nw1, cv1⟩, he2⟩
        rw [show rowsA sa da = rowsR sa da by unfold rowsA; rw [v1]; rfl] at nw1 cv1
        have q8 := q3.nrows nw1 cv1 he2
        obtain ⟨a3, c3, rfl, -⟩ := (q8.rowsF 0 rfl).1
        obtain ⟨a4, c4, ev1, hv1⟩ := IntRow.tl a.os (by omega)
        simp -implicitDefEqProofs only [kz, kk0, kk1, kk2, kk3, ↓two_true, ↓two_false, mkv, aggAt, Nat.reduceLeDiff, Nat.reduceSub, Nat.reduceMul, implies_true, Nat.reduceEqDiff, reduceIte, Nat.reduceAdd, Nat.reduceBEq, reduceCtorEq, al26, bd26, fa26_0, ld22, ld26, ln22, sn22, sl22, st26, twoSign_eq, ev1, q8.rd 1 rfl, q8.rd 2 rfl, q3.rd 0 rfl, q3.rd 1 rfl]
        refine (implReduced_ok (s := s) (q8.rowsF 0 rfl).1 (hv1.ext q8.ext) (by omega) (by omega) (fun r hr => ⟨by have := (m3 r hr).2.1; omega, by have := (m3 r hr).2.2.2.1; omega⟩) hsz ).mono ?_
        rintro _ H9 ⟨p3, p4, rfl, g2⟩
        obtain ⟨R1, hR1⟩ : ∃ R, redR s (rowsR sa da) sa.tail = R := ⟨_, rfl⟩
        rw [hR1] at g2 ⊢
        have q9 := q8.join g2
        simp only [List.map_cons, List.map_nil, List.cons_append, List.nil_append] at q9
        obtain ⟨a5, c5, rfl⟩ := (q9.own 0 rfl).isSlice
        obtain ⟨a6, c6, rfl⟩ := (q9.own 1 rfl).isSlice
        simp -implicitDefEqProofs only [kz, kk0, kk1, kk2, kk3, ↓two_true, ↓two_false, mkv, aggAt, Nat.reduceLeDiff, Nat.reduceSub, Nat.reduceMul, implies_true, Nat.reduceEqDiff, reduceIte, Nat.reduceAdd, Nat.reduceBEq, reduceCtorEq, al26, bd26, fa26_0, ld22, ld26, ln22, sn22, sl22, st26, twoSign_eq, ev1, q9.rd 3 rfl, q9.rd 4 rfl, q3.rd 0 rfl, q3.rd 1 rfl, q8.rd 1 rfl, q8.rd 2 rfl]
        refine st_set q9 3 rfl fun H10 q10 => ?_
        simp only [List.set_cons_zero, List.set_cons_succ] at q10
        simp -implicitDefEqProofs only [kz, kk0, kk1, kk2, kk3, ↓two_true, ↓two_false, mkv, aggAt, Nat.reduceLeDiff, Nat.reduceSub, Nat.reduceMul, implies_true, Nat.reduceEqDiff, reduceIte, Nat.reduceAdd, Nat.reduceBEq, reduceCtorEq, al26, bd26, fa26_0, ld22, ld26, ln22, sn22, sl22, st26, twoSign_eq, ev1, q10.rd 3 rfl, q10.rd 4 rfl, q3.rd 0 rfl, q3.rd 1 rfl, q8.rd 1 rfl, q8.rd 2 rfl, q9.rd 3 rfl, q9.rd 4 rfl]
        -- end4
        exact q10.ans 0 1 (by decide) rfl rfl (by unfold reduceR; rw [v1, v2, if_pos (by rfl), if_neg v3]; exact hR1)

theorem l5Rows_ok {H : AH} {v w : Value} {rs : List (List Int × List Int)} {sh : List Int} (r : RowsA H v rs) (h : IntRow H w sh) (l1 : rs.length ≤ 1048576) (l2 : sh.length ≤ 1048575) (l3 : (flatD rs).length ≤ 1048576) : CallsA Try.prog 63 #[v, w] H fun r H' => AnsA H H' r ((rs.length : Int) :: sh, flatD rs) := by
  have r0 := r
  obtain ⟨ra, rc, rfl, -⟩ := r0
  obtain ⟨wa, wc, rfl, -⟩ := h.op
  have q := (LX.nil (H := H))
  refine w63 ?_
  unfold k63
  simp -implicitDefEqProofs only [kz, kk0, kk1, kk2, kk3, ↓two_true, ↓two_false, mkv, aggAt, Nat.reduceLeDiff, Nat.reduceSub, Nat.reduceMul, implies_true, Nat.reduceEqDiff, reduceIte, Nat.reduceAdd, Nat.reduceBEq, reduceCtorEq, al26, ap22_22, bd26, bs22_1, fa26_1, ix39, ld22, ld26, ln39, st22, st26]
  refine st_box q fun H1 q1 => ?_
  simp -implicitDefEqProofs only [kz, kk0, kk1, kk2, kk3, ↓two_true, ↓two_false, mkv, aggAt, Nat.reduceLeDiff, Nat.reduceSub, Nat.reduceMul, implies_true, Nat.reduceEqDiff, reduceIte, Nat.reduceAdd, Nat.reduceBEq, reduceCtorEq, al26, ap22_22, bd26, bs22_1, fa26_1, ix39, ld22, ld26, ln39, st22, st26, q1.rd 0 rfl]
  refine st_lit [(rs).length] rfl rfl q1 fun H2 q2 => ?_
  simp -implicitDefEqProofs only [kz, kk0, kk1, kk2, kk3, ↓two_true, ↓two_false, mkv, aggAt, Nat.reduceLeDiff, Nat.reduceSub, Nat.reduceMul, implies_true, Nat.reduceEqDiff, reduceIte, Nat.reduceAdd, Nat.reduceBEq, reduceCtorEq, al26, ap22_22, bd26, bs22_1, fa26_1, ix39, ld22, ld26, ln39, st22, st26, q2.rd 1 rfl]
  refine st_app q2 0 rfl (h.ext q2.ext) (by (try simp only [List.length_cons, List.length_nil, List.length_append, List.length_replicate, List.length_map, List.length_take, List.length_drop]); omega) fun a1 c1 H3 q3 => ?_
  simp only [List.set_cons_zero, List.set_cons_succ, List.length_nil, List.length_cons, Nat.zero_add, List.nil_append] at q3 ⊢
  simp -implicitDefEqProofs only [kz, kk0, kk1, kk2, kk3, ↓two_true, ↓two_false, mkv, aggAt, Nat.reduceLeDiff, Nat.reduceSub, Nat.reduceMul, implies_true, Nat.reduceEqDiff, reduceIte, Nat.reduceAdd, Nat.reduceBEq, reduceCtorEq, al26, ap22_22, bd26, bs22_1, fa26_1, ix39, ld22, ld26, ln39, st22, st26, q3.rd 1 rfl]
  refine st_box q3 fun H4 q4 => ?_
  simp -implicitDefEqProofs only [kz, kk0, kk1, kk2, kk3, ↓two_true, ↓two_false, mkv, aggAt, Nat.reduceLeDiff, Nat.reduceSub, Nat.reduceMul, implies_true, Nat.reduceEqDiff, reduceIte, Nat.reduceAdd, Nat.reduceBEq, reduceCtorEq, al26, ap22_22, bd26, bs22_1, fa26_1, ix39, ld22, ld26, ln39, st22, st26, q4.rd 0 rfl, q4.rd 2 rfl]
  refine st_set q4 0 rfl fun H5 q5 => ?_
  simp only [List.set_cons_zero, List.set_cons_succ] at q5
  simp -implicitDefEqProofs only [kz, kk0, kk1, kk2, kk3, ↓two_true, ↓two_false, mkv, aggAt, Nat.reduceLeDiff, Nat.reduceSub, Nat.reduceMul, implies_true, Nat.reduceEqDiff, reduceIte, Nat.reduceAdd, Nat.reduceBEq, reduceCtorEq, al26, ap22_22, bd26, bs22_1, fa26_1, ix39, ld22, ld26, ln39, st22, st26, q5.rd 0 rfl, q5.rd 2 rfl]
  have q6 := q5.nil0
  refine rW_loopQ (σ := Nat × Option Addr × Nat) q6 [0, 4, 5] (fun x tm => tm 6 = .int .i64 x.1 ∧ x.1 ≤ rs.length) (fun x L => (L.set 1 (.own (.box H3.length [.slice a1 (1 + sh.length) c1, .slice x.2.1 (flatD (rs.take x.1)).length x.2.2]))).set 0 (.own (.row (.slice x.2.1 (flatD (rs.take x.1)).length x.2.2) (flatD (rs.take x.1))))) (fun x => rs.length - x.1) (0, none, 0) ⟨rfl, Nat.zero_le _⟩ rfl ?_
  rintro ⟨i, a, c⟩ tm1 H6 ⟨h1, h2, h3, -⟩ ⟨k1, hi⟩ q7
  simp -implicitDefEqProofs only [kz, kk0, kk1, kk2, kk3, ↓two_true, ↓two_false, mkv, aggAt, Nat.reduceLeDiff, Nat.reduceSub, Nat.reduceMul, implies_true, Nat.reduceEqDiff, reduceIte, Nat.reduceAdd, Nat.reduceBEq, reduceCtorEq, al26, ap22_22, bd26, bs22_1, fa26_1, ix39, ld22, ld26, ln39, st22, st26] at h1 h2 h3
  simp only [List.set_cons_zero, List.set_cons_succ] at q7
  simp only at k1 hi
  have wi := IntWalk.i64_in ((i : Int) + 1) (by omega)
  simp -implicitDefEqProofs only [kz, kk0, kk1, kk2, kk3, ↓two_true, ↓two_false, mkv, aggAt, Nat.reduceLeDiff, Nat.reduceSub, Nat.reduceMul, implies_true, Nat.reduceEqDiff, reduceIte, Nat.reduceAdd, Nat.reduceBEq, reduceCtorEq, al26, ap22_22, bd26, bs22_1, fa26_1, ix39, ld22, ld26, ln39, st22, st26, h1, h2, h3, k1, wi, q7.rd 1 rfl, q7.rd 3 rfl]
  refine two_intro (fun u1 => ?_) (fun u1 => ?_)
  ·
    have hc' : i < rs.length := by simpa using u1
    have hstep := flatD_take hc'
    have hle := flatD_take_le (rs := rs) (i := i + 1)
    rw [hstep, List.length_append] at hle
    obtain ⟨b1, o1, cs1, p1, p2, ei1, fr1, fc1, fc2, fi1, fi2⟩ := ixR r hc'
    obtain ⟨a2, c2, rfl, -⟩ := fi1.op
    obtain ⟨a3, c3, rfl, -⟩ := fi2.op
    try simp -implicitDefEqProofs only [kz, kk0, kk1, kk2, kk3, ↓two_true, ↓two_false, mkv, aggAt, Nat.reduceLeDiff, Nat.reduceSub, Nat.reduceMul, implies_true, Nat.reduceEqDiff, reduceIte, Nat.reduceAdd, Nat.reduceBEq, reduceCtorEq, al26, ap22_22, bd26, bs22_1, fa26_1, ix39, ld22, ld26, ln39, st22, st26, ei1, rd_ext fr1 q7.ext, fc1, fc2, ldA2 fc1 fc2, h1, h2, h3, k1, wi, q7.rd 1 rfl, q7.rd 3 rfl]
    refine st_app q7 0 rfl (fi2.ext q7.ext) (by (try simp only [List.length_cons, List.length_nil, List.length_append, List.length_replicate, List.length_map, List.length_take, List.length_drop]); omega) fun a4 c4 H7 q8 => ?_
    simp only [List.set_cons_zero, List.set_cons_succ, List.length_nil, List.length_cons, Nat.zero_add, List.nil_append] at q8 ⊢
    simp -implicitDefEqProofs only [kz, kk0, kk1, kk2, kk3, ↓two_true, ↓two_false, mkv, aggAt, Nat.reduceLeDiff, Nat.reduceSub, Nat.reduceMul, implies_true, Nat.reduceEqDiff, reduceIte, Nat.reduceAdd, Nat.reduceBEq, reduceCtorEq, al26, ap22_22, bd26, bs22_1, fa26_1, ix39, ld22, ld26, ln39, st22, st26, ei1, rd_ext fr1 q8.ext, fc1, fc2, ldA2 fc1 fc2, h1, h2, h3, k1, wi, q8.rd 1 rfl, q8.rd 3 rfl, q7.rd 1 rfl, q7.rd 3 rfl]
    refine st_set q8 1 rfl fun H8 q9 => ?_
    simp only [List.set_cons_zero, List.set_cons_succ] at q9
    simp -implicitDefEqProofs only [kz, kk0, kk1, kk2, kk3, ↓two_true, ↓two_false, mkv, aggAt, Nat.reduceLeDiff, Nat.reduceSub, Nat.reduceMul, implies_true, Nat.reduceEqDiff, reduceIte, Nat.reduceAdd, Nat.reduceBEq, reduceCtorEq, al26, ap22_22, bd26, bs22_1, fa26_1, ix39, ld22, ld26, ln39, st22, st26, ei1, rd_ext fr1 q9.ext, fc1, fc2, ldA2 fc1 fc2, h1, h2, h3, k1, wi, q9.rd 1 rfl, q9.rd 3 rfl, q7.rd 1 rfl, q7.rd 3 rfl, q8.rd 1 rfl, q8.rd 3 rfl]
    try simp -implicitDefEqProofs only [kz, kk0, kk1, kk2, kk3, ↓two_true, ↓two_false, mkv, aggAt, Nat.reduceLeDiff, Nat.reduceSub, Nat.reduceMul, implies_true, Nat.reduceEqDiff, reduceIte, Nat.reduceAdd, Nat.reduceBEq, reduceCtorEq, al26, ap22_22, bd26, bs22_1, fa26_1, ix39, ld22, ld26, ln39, st22, st26, ei1, rd_ext fr1 q9.ext, fc1, fc2, ldA2 fc1 fc2, h1, h2, h3, k1, wi, q9.rd 1 rfl, q9.rd 3 rfl]
    -- back loop1
    refine ⟨(i + 1, a4, c4), (by simp only; omega), ⟨rfl, rfl, rfl, trivial⟩, ⟨by first | rfl | simp, hc'⟩, ?_⟩
    simp only [List.set_cons_zero, List.set_cons_succ, hstep, List.length_append]
    exact q9
  ·
    have hil : i = rs.length := Nat.le_antisymm hi (Nat.not_lt.1 (by simpa using u1))
    subst hil
    rw [List.take_length] at q7 ⊢
    try simp -implicitDefEqProofs only [kz, kk0, kk1, kk2, kk3, ↓two_true, ↓two_false, mkv, aggAt, Nat.reduceLeDiff, Nat.reduceSub, Nat.reduceMul, implies_true, Nat.reduceEqDiff, reduceIte, Nat.reduceAdd, Nat.reduceBEq, reduceCtorEq, al26, ap22_22, bd26, bs22_1, fa26_1, ix39, ld22, ld26, ln39, st22, st26, h1, h2, h3, k1, wi, q7.rd 1 rfl, q7.rd 3 rfl]
    refine st_set q7 3 rfl fun H9 q10 => ?_
    simp only [List.set_cons_zero, List.set_cons_succ] at q10
    simp -implicitDefEqProofs only [kz, kk0, kk1, kk2, kk3, ↓two_true, ↓two_false, mkv, aggAt, Nat.reduceLeDiff, Nat.reduceSub, Nat.reduceMul, implies_true, Nat.reduceEqDiff, reduceIte, Nat.reduceAdd, Nat.reduceBEq, reduceCtorEq, al26, ap22_22, bd26, bs22_1, fa26_1, ix39, ld22, ld26, ln39, st22, st26, h1, h2, h3, k1, wi, q10.rd 1 rfl, q10.rd 3 rfl]
    -- end1
    exact q10.ansA 2 0 (by decide) rfl rfl rfl

theorem flatD_len {rs : List (List Int × List Int)} {m : Nat} (h : ∀ r ∈ rs, r.2.length = m) : (flatD rs).length = rs.length * m := by
  induction rs with
  | nil => simp [flatD]
  | cons r rs ih =>
    have e1 := h r List.mem_cons_self
    have e2 := ih fun x hx => h x (List.mem_cons_of_mem _ hx)
    simp only [flatD, List.flatMap_cons, List.length_append, List.length_cons] at e2 ⊢
    rw [e2, e1, Nat.add_mul]; omega
theorem scan_rows {s : Int} {sa da : List Int} {k : Nat} (v1 : arrOk sa da = true) (v3 : sa.length ≠ 0) (hk : k ≤ (rowsR sa da).length) (hz : ∀ j, j < k → (redL s ((rowsR sa da).take (j + 1))).2 = 0) : ∃ m : Nat, (0 < k → sizeI sa.tail = m) ∧ m ≤ 300 ∧ ∀ r ∈ scanL s (rowsR sa da) k, r.1.length ≤ 3 ∧ r.2.length = m ∧ r.2.all numOk = true := by
  obtain ⟨m1, m2, m3⟩ := rowsR_lim v1 v3
  rcases Nat.eq_zero_or_pos k with h0 | h0
  · subst h0; exact ⟨0, fun h => by omega, by omega, fun r hr => by simp [scanL] at hr⟩
  · have hm : (0 : Nat) < (rowsR sa da).length := by omega
    obtain ⟨_, _, e3, e4, _⟩ := m3 _ (List.getElem_mem hm)
    refine ⟨((rowsR sa da)[0]'hm).2.length, fun _ => e3.symm, e4, fun r hr => ?_⟩
    unfold scanL at hr
    obtain ⟨j, hj, rfl⟩ := List.mem_map.1 hr
    rw [List.mem_range] at hj
    have := redL_rows (s := s) (rs := (rowsR sa da).take (j + 1)) (sh := sa.tail) (m := ((rowsR sa da)[0]'hm).2.length) (fun r hr => by
      obtain ⟨g1, _, g3, _, g5⟩ := m3 r (List.mem_of_mem_take hr)
      exact ⟨g1, by omega, g5⟩) e3.symm (by simp; omega) (hz j hj)
    refine ⟨?_, this.2.1, this.2.2⟩
    rw [this.1]
    obtain ⟨g1, g2, _⟩ := m3 _ (List.getElem_mem hm)
    rw [← g1]; exact g2
theorem scan_ok {s : Int} {sa da : List Int} (v1 : arrOk sa da = true) (v3 : sa.length ≠ 0) (hz : ∀ j, j < (rowsR sa da).length → (redL s ((rowsR sa da).take (j + 1))).2 = 0) (h0 : (rowsR sa da).length ≠ 0) :
    arrOk (((rowsR sa da).length : Int) :: sa.tail) (flatD (scanL s (rowsR sa da) (rowsR sa da).length)) = true ∧ (flatD (scanL s (rowsR sa da) (rowsR sa da).length)).length ≤ 300 := by
  obtain ⟨m1, m2, m3⟩ := rowsR_lim v1 v3
  obtain ⟨m, e1, e2, e3⟩ := scan_rows (s := s) v1 v3 (Nat.le_refl _) hz
  have e1 := e1 (by omega)
  have hl := flatD_len (rs := scanL s (rowsR sa da) (rowsR sa da).length) (m := m) fun r hr => (e3 r hr).2.1
  rw [scanL_len] at hl
  have hsa : sa = sa.headD 0 :: sa.tail := by
    cases sa with
    | nil => exact absurd rfl v3
    | cons x tl => rfl
  have hsz := arrOk_size v1
  have h2 := v1
  rw [hsa] at h2
  obtain ⟨n, f1, f2, f3⟩ := arrOk_rows h2
  rw [f1] at m2
  have hnn : (rowsR sa da).length = n := by omega
  obtain ⟨m', f4, f5, f6⟩ := f3 (by omega)
  have hmm : m' = m := by omega
  subst hmm
  rw [hnn] at hl ⊢
  have hs : sizeI ((n : Int) :: sa.tail) = sizeI sa := by rw [hsa, f1]; rfl
  refine ⟨?_, by rw [hl, ← f6]; exact hsz.2⟩
  unfold arrOk
  simp only [hl, hs, hsz.1, f6, Bool.and_eq_true, beq_self_eq_true, true_and]
  refine List.all_eq_true.2 fun y hy => ?_
  unfold flatD at hy
  obtain ⟨r, hr, hy⟩ := List.mem_flatMap.1 hy
  rw [← hnn] at hr
  exact List.all_eq_true.1 (e3 r hr).2.2 y hy
theorem scan_len {s : Int} {sa da : List Int} (v1 : arrOk sa da = true) (v3 : sa.length ≠ 0) (hz : ∀ j, j < (rowsR sa da).length → (redL s ((rowsR sa da).take (j + 1))).2 = 0) : (flatD (scanL s (rowsR sa da) (rowsR sa da).length)).length ≤ 300 := by
  by_cases h0 : (rowsR sa da).length = 0
  · rw [h0]; simp [scanL, flatD]
  · exact (scan_ok v1 v3 hz h0).2
theorem scan_zero {sa da : List Int} (v1 : arrOk sa da = true) (v3 : sa.length ≠ 0) (h0 : (rowsR sa da).length = 0) : sa = ((0 : Nat) : Int) :: sa.tail ∧ da = [] := by
  obtain ⟨m1, m2, m3⟩ := rowsR_lim v1 v3
  have hsa : sa = sa.headD 0 :: sa.tail := by
    cases sa with
    | nil => exact absurd rfl v3
    | cons x tl => rfl
  rw [h0] at m2
  refine ⟨by rw [m2]; exact hsa, ?_⟩
  have h1 := arrOk_size v1
  obtain ⟨_, _, e⟩ := sizeI_ok (l := sa) (by omega)
  rw [hsa, ← m2, prodI_cons] at e
  refine List.eq_nil_of_length_eq_zero ?_
  have h2 := h1.1
  rw [hsa, ← m2, e] at h2
  simp at h2
  omega
theorem scanC_at {s : Int} {rs : List (List Int × List Int)} {i : Nat} (hi : i < rs.length) (hz : ∀ j, j < i → (redL s (rs.take (j + 1))).2 = 0) (hc : (redL s (rs.take (i + 1))).2 ≠ 0) : scanC s rs = (redL s (rs.take (i + 1))).2 := by
  have := firstC_at (l := List.range rs.length) (f := fun i => (redL s (rs.take (i + 1))).2) (i := i) (by simpa using hi) (fun y hy => by
    rw [List.take_range] at hy
    exact hz y (by have := List.mem_range.1 hy; omega)) (by simpa using hc)
  unfold scanC
  rw [this, List.getElem_range]
theorem scanC_no {s : Int} {rs : List (List Int × List Int)} (hz : ∀ j, j < rs.length → (redL s (rs.take (j + 1))).2 = 0) : scanC s rs = 0 := firstC_no fun y hy => hz y (List.mem_range.1 hy)

theorem implScan_ok {H : AH} {s : Int} {pa qa : Value} {sa da : List Int} (a : AR H pa qa sa da) : CallsA Try.prog 15 #[.int .i64 s, .agg #[pa, qa]] H fun r H' => Ans1 H H' r (scanR s sa da) := by
  have al := a.l1
  have bl := a.l2
  obtain ⟨za, zc, zb, zd, rfl, rfl⟩ := a.o1
  have q := (LX.nil (H := H))
  refine w15 ?_
  unfold k15
  simp -implicitDefEqProofs only [kz, kk0, kk1, kk2, kk3, ↓two_true, ↓two_false, mkv, aggAt, Nat.reduceLeDiff, Nat.reduceSub, Nat.reduceMul, implies_true, Nat.reduceEqDiff, reduceIte, Nat.reduceAdd, Nat.reduceBEq, reduceCtorEq, al26, ap39_39, bd26, bs39_1, fa26_0, ld22, ld26, ln39, sn22, sl22, sn39, sl39, st26, twoSign_eq]
  refine st_box q fun H1 q1 => ?_
  simp -implicitDefEqProofs only [kz, kk0, kk1, kk2, kk3, ↓two_true, ↓two_false, mkv, aggAt, Nat.reduceLeDiff, Nat.reduceSub, Nat.reduceMul, implies_true, Nat.reduceEqDiff, reduceIte, Nat.reduceAdd, Nat.reduceBEq, reduceCtorEq, al26, ap39_39, bd26, bs39_1, fa26_0, ld22, ld26, ln39, sn22, sl22, sn39, sl39, st26, twoSign_eq, q1.rd 0 rfl]
  refine st_box q1 fun H2 q2 => ?_
  simp -implicitDefEqProofs only [kz, kk0, kk1, kk2, kk3, ↓two_true, ↓two_false, mkv, aggAt, Nat.reduceLeDiff, Nat.reduceSub, Nat.reduceMul, implies_true, Nat.reduceEqDiff, reduceIte, Nat.reduceAdd, Nat.reduceBEq, reduceCtorEq, al26, ap39_39, bd26, bs39_1, fa26_0, ld22, ld26, ln39, sn22, sl22, sn39, sl39, st26, twoSign_eq, q2.rd 0 rfl, q2.rd 1 rfl]
  refine (implOk_ar (a.ext q2.ext)).mono ?_
  rintro _ H3 ⟨rfl, he1⟩
  have q3 := q2.extd he1
  simp -implicitDefEqProofs only [kz, kk0, kk1, kk2, kk3, ↓two_true, ↓two_false, mkv, aggAt, Nat.reduceLeDiff, Nat.reduceSub, Nat.reduceMul, implies_true, Nat.reduceEqDiff, reduceIte, Nat.reduceAdd, Nat.reduceBEq, reduceCtorEq, al26, ap39_39, bd26, bs39_1, fa26_0, ld22, ld26, ln39, sn22, sl22, sn39, sl39, st26, twoSign_eq, q3.rd 0 rfl, q3.rd 1 rfl]
  refine two_intro (fun u1 => ?_) (fun u1 => ?_)
  ·
    try simp -implicitDefEqProofs only [kz, kk0, kk1, kk2, kk3, ↓two_true, ↓two_false, mkv, aggAt, Nat.reduceLeDiff, Nat.reduceSub, Nat.reduceMul, implies_true, Nat.reduceEqDiff, reduceIte, Nat.reduceAdd, Nat.reduceBEq, reduceCtorEq, al26, ap39_39, bd26, bs39_1, fa26_0, ld22, ld26, ln39, sn22, sl22, sn39, sl39, st26, twoSign_eq, q3.rd 0 rfl, q3.rd 1 rfl]
    refine st_set q3 0 rfl fun H4 q4 => ?_
    simp only [List.set_cons_zero, List.set_cons_succ] at q4
    simp -implicitDefEqProofs only [kz, kk0, kk1, kk2, kk3, ↓two_true, ↓two_false, mkv, aggAt, Nat.reduceLeDiff, Nat.reduceSub, Nat.reduceMul, implies_true, Nat.reduceEqDiff, reduceIte, Nat.reduceAdd, Nat.reduceBEq, reduceCtorEq, al26, ap39_39, bd26, bs39_1, fa26_0, ld22, ld26, ln39, sn22, sl22, sn39, sl39, st26, twoSign_eq, q4.rd 0 rfl, q4.rd 1 rfl]
    -- end1
    exact q4.err (by simp [scanR, show arrOk sa da = false by simpa using u1])
  ·
    have v1 : arrOk sa da = true := by simpa using u1
    try simp -implicitDefEqProofs only [kz, kk0, kk1, kk2, kk3, ↓two_true, ↓two_false, mkv, aggAt, Nat.reduceLeDiff, Nat.reduceSub, Nat.reduceMul, implies_true, Nat.reduceEqDiff, reduceIte, Nat.reduceAdd, Nat.reduceBEq, reduceCtorEq, al26, ap39_39, bd26, bs39_1, fa26_0, ld22, ld26, ln39, sn22, sl22, sn39, sl39, st26, twoSign_eq, q3.rd 0 rfl, q3.rd 1 rfl]
    refine two_intro (fun u2 => ?_) (fun u2 => ?_)
    ·
      try simp -implicitDefEqProofs only [kz, kk0, kk1, kk2, kk3, ↓two_true, ↓two_false, mkv, aggAt, Nat.reduceLeDiff, Nat.reduceSub, Nat.reduceMul, implies_true, Nat.reduceEqDiff, reduceIte, Nat.reduceAdd, Nat.reduceBEq, reduceCtorEq, al26, ap39_39, bd26, bs39_1, fa26_0, ld22, ld26, ln39, sn22, sl22, sn39, sl39, st26, twoSign_eq, q3.rd 0 rfl, q3.rd 1 rfl]
      refine st_set q3 0 rfl fun H5 q5 => ?_
      simp only [List.set_cons_zero, List.set_cons_succ] at q5
      simp -implicitDefEqProofs only [kz, kk0, kk1, kk2, kk3, ↓two_true, ↓two_false, mkv, aggAt, Nat.reduceLeDiff, Nat.reduceSub, Nat.reduceMul, implies_true, Nat.reduceEqDiff, reduceIte, Nat.reduceAdd, Nat.reduceBEq, reduceCtorEq, al26, ap39_39, bd26, bs39_1, fa26_0, ld22, ld26, ln39, sn22, sl22, sn39, sl39, st26, twoSign_eq, q5.rd 0 rfl, q5.rd 1 rfl]
      -- end2
      exact q5.err (by simp [scanR, show sg2 s = false by simpa using u2])
    ·
      have v2 : sg2 s = true := by simpa using u2
      try simp -implicitDefEqProofs only [kz, kk0, kk1, kk2, kk3, ↓two_true, ↓two_false, mkv, aggAt, Nat.reduceLeDiff, Nat.reduceSub, Nat.reduceMul, implies_true, Nat.reduceEqDiff, reduceIte, Nat.reduceAdd, Nat.reduceBEq, reduceCtorEq, al26, ap39_39, bd26, bs39_1, fa26_0, ld22, ld26, ln39, sn22, sl22, sn39, sl39, st26, twoSign_eq, q3.rd 0 rfl, q3.rd 1 rfl]
      refine (implRows_ok (a.ext q3.ext)).mono ?_
      rintro rv1 H6 ⟨⟨ys1, nw1, cv1⟩, he2⟩
      have hra : rowsA sa da = rowsR sa da := by unfold rowsA; rw [v1]; rfl
      rw [hra] at nw1 cv1
      have q6 := q3.nrows nw1 cv1 he2
      obtain ⟨a1, c1, rfl, -⟩ := (q6.rowsF 0 rfl).1
      simp -implicitDefEqProofs only [kz, kk0, kk1, kk2, kk3, ↓two_true, ↓two_false, mkv, aggAt, Nat.reduceLeDiff, Nat.reduceSub, Nat.reduceMul, implies_true, Nat.reduceEqDiff, reduceIte, Nat.reduceAdd, Nat.reduceBEq, reduceCtorEq, al26, ap39_39, bd26, bs39_1, fa26_0, ld22, ld26, ln39, sn22, sl22, sn39, sl39, st26, twoSign_eq, q6.rd 1 rfl, q6.rd 2 rfl]
      refine two_intro (fun u3 => ?_) (fun u3 => ?_)
      ·
        have v4 : (rowsR sa da).length = 0 := by simpa using u3
        try simp -implicitDefEqProofs only [kz, kk0, kk1, kk2, kk3, ↓two_true, ↓two_false, mkv, aggAt, Nat.reduceLeDiff, Nat.reduceSub, Nat.reduceMul, implies_true, Nat.reduceEqDiff, reduceIte, Nat.reduceAdd, Nat.reduceBEq, reduceCtorEq, al26, ap39_39, bd26, bs39_1, fa26_0, ld22, ld26, ln39, sn22, sl22, sn39, sl39, st26, twoSign_eq, q6.rd 1 rfl, q6.rd 2 rfl]
        refine (copyA_ok (a.ext q6.ext)).mono ?_
        rintro _ H7 ⟨p1, p2, rfl, g1⟩
        have q7 := q6.join g1
        simp only [List.map_cons, List.map_nil, List.cons_append, List.nil_append] at q7
        obtain ⟨a2, c2, rfl⟩ := (q7.own 0 rfl).isSlice
        obtain ⟨a3, c3, rfl⟩ := (q7.own 1 rfl).isSlice
        simp -implicitDefEqProofs only [kz, kk0, kk1, kk2, kk3, ↓two_true, ↓two_false, mkv, aggAt, Nat.reduceLeDiff, Nat.reduceSub, Nat.reduceMul, implies_true, Nat.reduceEqDiff, reduceIte, Nat.reduceAdd, Nat.reduceBEq, reduceCtorEq, al26, ap39_39, bd26, bs39_1, fa26_0, ld22, ld26, ln39, sn22, sl22, sn39, sl39, st26, twoSign_eq, q7.rd 3 rfl, q7.rd 4 rfl]
        refine st_set q7 3 rfl fun H8 q8 => ?_
        simp only [List.set_cons_zero, List.set_cons_succ] at q8
        simp -implicitDefEqProofs only [kz, kk0, kk1, kk2, kk3, ↓two_true, ↓two_false, mkv, aggAt, Nat.reduceLeDiff, Nat.reduceSub, Nat.reduceMul, implies_true, Nat.reduceEqDiff, reduceIte, Nat.reduceAdd, Nat.reduceBEq, reduceCtorEq, al26, ap39_39, bd26, bs39_1, fa26_0, ld22, ld26, ln39, sn22, sl22, sn39, sl39, st26, twoSign_eq, q8.rd 3 rfl, q8.rd 4 rfl]
        -- end3
        exact q8.ans 0 1 (by decide) rfl rfl (by unfold scanR; rw [v1, v2, if_pos (by rfl), if_pos v4]; exact ite_self _)
      ·
        have v4 : (rowsR sa da).length ≠ 0 := by simpa using u3
        have v3 : sa.length ≠ 0 := by
          intro h
          rw [List.length_eq_zero_iff.1 h] at v4
          simp [rowsR] at v4
        obtain ⟨m1, m2, m3⟩ := rowsR_lim v1 v3
        have hsl3 : sa.length ≤ 3 := (sizeI_ok (by have := (arrOk_size v1).1; omega)).1
        have htl : sa.tail.length ≤ 3 := by simp; omega
        try simp -implicitDefEqProofs only [kz, kk0, kk1, kk2, kk3, ↓two_true, ↓two_false, mkv, aggAt, Nat.reduceLeDiff, Nat.reduceSub, Nat.reduceMul, implies_true, Nat.reduceEqDiff, reduceIte, Nat.reduceAdd, Nat.reduceBEq, reduceCtorEq, al26, ap39_39, bd26, bs39_1, fa26_0, ld22, ld26, ln39, sn22, sl22, sn39, sl39, st26, twoSign_eq, q6.rd 1 rfl, q6.rd 2 rfl]
        have q9 := q6.ntab [.r, .r]
        refine rW_loopQ (σ := Nat × Option Addr × Nat × List Value) q9 [0, 3, 4, 6, 28] (fun x tm => tm 29 = .int .i64 x.1 ∧ tm 7 = .slice x.2.1 x.1 x.2.2.1 ∧ x.1 ≤ (rowsR sa da).length ∧ ∀ j, j < x.1 → (redL s ((rowsR sa da).take (j + 1))).2 = 0) (fun x L => L.set 0 (.tab (.slice x.2.1 x.1 x.2.2.1) [.r, .r] x.1 x.2.2.2 (rowsV (scanL s (rowsR sa da) x.1)))) (fun x => (rowsR sa da).length - x.1) (0, none, 0, []) ⟨rfl, rfl, Nat.zero_le _, fun j hj => by simp at hj⟩ rfl ?_
        rintro ⟨i, av, cv, ys⟩ tm1 H9 ⟨h1, h2, h3, h4, h5, -⟩ ⟨ki, ko, hi, hz⟩ q10
        simp -implicitDefEqProofs only [kz, kk0, kk1, kk2, kk3, ↓two_true, ↓two_false, mkv, aggAt, Nat.reduceLeDiff, Nat.reduceSub, Nat.reduceMul, implies_true, Nat.reduceEqDiff, reduceIte, Nat.reduceAdd, Nat.reduceBEq, reduceCtorEq, al26, ap39_39, bd26, bs39_1, fa26_0, ld22, ld26, ln39, sn22, sl22, sn39, sl39, st26] at h1 h2 h3 h4 h5
        simp only [List.set_cons_zero, List.set_cons_succ] at q10
        simp only at ki ko hi hz
        have wi : IntKind.i64.wrap ((i : Int) + 1) = ((i + 1 : Nat) : Int) := IntWalk.i64_in ((i : Int) + 1) (by omega)
        simp -implicitDefEqProofs only [kz, kk0, kk1, kk2, kk3, ↓two_true, ↓two_false, mkv, aggAt, Nat.reduceLeDiff, Nat.reduceSub, Nat.reduceMul, implies_true, Nat.reduceEqDiff, reduceIte, Nat.reduceAdd, Nat.reduceBEq, reduceCtorEq, al26, ap39_39, bd26, bs39_1, fa26_0, ld22, ld26, ln39, sn22, sl22, sn39, sl39, st26, twoSign_eq, h1, h2, h3, h4, h5, ki, ko, wi, q10.rd 2 rfl, q10.rd 3 rfl]
        refine two_intro (fun u4 => ?_) (fun u4 => ?_)
        ·
          have hc : i < (rowsR sa da).length := by simpa using u4
          obtain ⟨a4, c4, ev1, hv1⟩ := RowsA.tk (k := i + 1) (q10.rowsF 1 rfl).1 hc (by omega)
          obtain ⟨a5, c5, ev2, hv2⟩ := IntRow.tl a.os (by omega)
          try simp -implicitDefEqProofs only [kz, kk0, kk1, kk2, kk3, ↓two_true, ↓two_false, mkv, aggAt, Nat.reduceLeDiff, Nat.reduceSub, Nat.reduceMul, implies_true, Nat.reduceEqDiff, reduceIte, Nat.reduceAdd, Nat.reduceBEq, reduceCtorEq, al26, ap39_39, bd26, bs39_1, fa26_0, ld22, ld26, ln39, sn22, sl22, sn39, sl39, st26, twoSign_eq, ev1, ev2, h1, h2, h3, h4, h5, ki, ko, wi, q10.rd 2 rfl, q10.rd 3 rfl]
          refine (implReduced_ok (s := s) hv1 (hv2.ext q10.ext) (by rw [List.length_take]; omega) (by omega) (fun r hr => ⟨by have := (m3 r (List.mem_of_mem_take hr)).2.1; omega, by have := (m3 r (List.mem_of_mem_take hr)).2.2.2.1; omega⟩) (fun h => absurd h (by rw [List.length_take]; omega)) ).mono ?_
          rintro _ H10 ⟨p3, p4, rfl, g2⟩
          obtain ⟨R1, hR1⟩ : ∃ R, redR s ((rowsR sa da).take (i + 1)) sa.tail = R := ⟨_, rfl⟩
          rw [hR1] at g2 ⊢
          have q11 := q10.join g2
          simp only [List.map_cons, List.map_nil, List.cons_append, List.nil_append] at q11
          obtain ⟨a6, c6, rfl⟩ := (q11.own 0 rfl).isSlice
          obtain ⟨a7, c7, rfl⟩ := (q11.own 1 rfl).isSlice
          have hred : redL s ((rowsR sa da).take (i + 1)) = R1 := by rw [← hR1]; unfold redR; rw [if_neg (by rw [List.length_take]; omega)]
          simp -implicitDefEqProofs only [kz, kk0, kk1, kk2, kk3, ↓two_true, ↓two_false, mkv, aggAt, Nat.reduceLeDiff, Nat.reduceSub, Nat.reduceMul, implies_true, Nat.reduceEqDiff, reduceIte, Nat.reduceAdd, Nat.reduceBEq, reduceCtorEq, al26, ap39_39, bd26, bs39_1, fa26_0, ld22, ld26, ln39, sn22, sl22, sn39, sl39, st26, twoSign_eq, ev1, ev2, h1, h2, h3, h4, h5, ki, ko, wi, q11.rd 4 rfl, q11.rd 5 rfl, q10.rd 2 rfl, q10.rd 3 rfl]
          refine st_box q11 fun H11 q12 => ?_
          simp -implicitDefEqProofs only [kz, kk0, kk1, kk2, kk3, ↓two_true, ↓two_false, mkv, aggAt, Nat.reduceLeDiff, Nat.reduceSub, Nat.reduceMul, implies_true, Nat.reduceEqDiff, reduceIte, Nat.reduceAdd, Nat.reduceBEq, reduceCtorEq, al26, ap39_39, bd26, bs39_1, fa26_0, ld22, ld26, ln39, sn22, sl22, sn39, sl39, st26, twoSign_eq, ev1, ev2, h1, h2, h3, h4, h5, ki, ko, wi, q12.rd 0 rfl, q12.rd 5 rfl, q12.rd 6 rfl, q10.rd 2 rfl, q10.rd 3 rfl, q11.rd 4 rfl, q11.rd 5 rfl]
          refine st_set q12 0 rfl fun H12 q13 => ?_
          simp only [List.set_cons_zero, List.set_cons_succ] at q13
          simp -implicitDefEqProofs only [kz, kk0, kk1, kk2, kk3, ↓two_true, ↓two_false, mkv, aggAt, Nat.reduceLeDiff, Nat.reduceSub, Nat.reduceMul, implies_true, Nat.reduceEqDiff, reduceIte, Nat.reduceAdd, Nat.reduceBEq, reduceCtorEq, al26, ap39_39, bd26, bs39_1, fa26_0, ld22, ld26, ln39, sn22, sl22, sn39, sl39, st26, twoSign_eq, ev1, ev2, h1, h2, h3, h4, h5, ki, ko, wi, q13.rd 0 rfl, q13.rd 5 rfl, q13.rd 6 rfl, q10.rd 2 rfl, q10.rd 3 rfl, q11.rd 4 rfl, q11.rd 5 rfl, q12.rd 0 rfl, q12.rd 5 rfl, q12.rd 6 rfl]
          try simp -implicitDefEqProofs only [kz, kk0, kk1, kk2, kk3, ↓two_true, ↓two_false, mkv, aggAt, Nat.reduceLeDiff, Nat.reduceSub, Nat.reduceMul, implies_true, Nat.reduceEqDiff, reduceIte, Nat.reduceAdd, Nat.reduceBEq, reduceCtorEq, al26, ap39_39, bd26, bs39_1, fa26_0, ld22, ld26, ln39, sn22, sl22, sn39, sl39, st26, twoSign_eq, ev1, ev2, h1, h2, h3, h4, h5, ki, ko, wi, q13.rd 0 rfl, q13.rd 5 rfl, q13.rd 6 rfl]
          refine two_intro (fun u5 => ?_) (fun u5 => ?_)
          ·
            have v4 : (rowsR sa da).length ≠ 0 := by omega
            have hne : R1.2 ≠ 0 := by simpa using u5
            have hC := scanC_at (s := s) hc hz (by rw [hred]; exact hne)
            rw [hred] at hC
            try simp -implicitDefEqProofs only [kz, kk0, kk1, kk2, kk3, ↓two_true, ↓two_false, mkv, aggAt, Nat.reduceLeDiff, Nat.reduceSub, Nat.reduceMul, implies_true, Nat.reduceEqDiff, reduceIte, Nat.reduceAdd, Nat.reduceBEq, reduceCtorEq, al26, ap39_39, bd26, bs39_1, fa26_0, ld22, ld26, ln39, sn22, sl22, sn39, sl39, st26, twoSign_eq, ev1, ev2, h1, h2, h3, h4, h5, ki, ko, wi, q13.rd 0 rfl, q13.rd 5 rfl, q13.rd 6 rfl]
            refine st_set q13 5 rfl fun H13 q14 => ?_
            simp only [List.set_cons_zero, List.set_cons_succ] at q14
            simp -implicitDefEqProofs only [kz, kk0, kk1, kk2, kk3, ↓two_true, ↓two_false, mkv, aggAt, Nat.reduceLeDiff, Nat.reduceSub, Nat.reduceMul, implies_true, Nat.reduceEqDiff, reduceIte, Nat.reduceAdd, Nat.reduceBEq, reduceCtorEq, al26, ap39_39, bd26, bs39_1, fa26_0, ld22, ld26, ln39, sn22, sl22, sn39, sl39, st26, twoSign_eq, ev1, ev2, h1, h2, h3, h4, h5, ki, ko, wi, q14.rd 0 rfl, q14.rd 5 rfl, q14.rd 6 rfl]
            -- end4
            exact q14.err (by unfold scanR; rw [v1, v2, if_pos (by rfl), if_neg v3, if_neg v4, hC]; exact if_neg hne)
          ·
            have hz1 : R1.2 = 0 := by simpa using u5
            have hz2 : ∀ j, j < i + 1 → (redL s ((rowsR sa da).take (j + 1))).2 = 0 := fun j hj => by
              rcases Nat.lt_or_ge j i with h | h
              · exact hz j h
              · have e : j = i := (by omega)
                rw [e, hred]; exact hz1
            have hrl : R1.1.1.length ≤ 3 ∧ R1.1.2.length ≤ 300 := by
              obtain ⟨m, _, e2, e3⟩ := scan_rows (s := s) v1 v3 (k := i + 1) hc hz2
              have := e3 R1.1 (by rw [scanL_step, hred]; simp)
              omega
            try simp -implicitDefEqProofs only [kz, kk0, kk1, kk2, kk3, ↓two_true, ↓two_false, mkv, aggAt, Nat.reduceLeDiff, Nat.reduceSub, Nat.reduceMul, implies_true, Nat.reduceEqDiff, reduceIte, Nat.reduceAdd, Nat.reduceBEq, reduceCtorEq, al26, ap39_39, bd26, bs39_1, fa26_0, ld22, ld26, ln39, sn22, sl22, sn39, sl39, st26, twoSign_eq, ev1, ev2, h1, h2, h3, h4, h5, ki, ko, wi, q13.rd 0 rfl, q13.rd 5 rfl, q13.rd 6 rfl]
            refine st_cells q13 fun H14 q15 => ?_
            simp -implicitDefEqProofs only [kz, kk0, kk1, kk2, kk3, ↓two_true, ↓two_false, mkv, aggAt, Nat.reduceLeDiff, Nat.reduceSub, Nat.reduceMul, implies_true, Nat.reduceEqDiff, reduceIte, Nat.reduceAdd, Nat.reduceBEq, reduceCtorEq, al26, ap39_39, bd26, bs39_1, fa26_0, ld22, ld26, ln39, sn22, sl22, sn39, sl39, st26, twoSign_eq, ev1, ev2, h1, h2, h3, h4, h5, ki, ko, wi, q15.rd 0 rfl, q15.rd 1 rfl, q15.rd 6 rfl, q15.rd 7 rfl]
            have q16 := q15.fzr 2 rfl
            simp only [List.set_cons_zero, List.set_cons_succ] at q16
            have q17 := q16.fzr 3 rfl
            simp only [List.set_cons_zero, List.set_cons_succ] at q17
            refine st_app2 q17 4 0 2 3 rfl rfl rfl rfl (by omega) (by omega) (by omega) fun a8 c8 H15 ys2 q18 => ?_
            simp only [List.set_cons_zero, List.set_cons_succ] at q18
            simp -implicitDefEqProofs only [kz, kk0, kk1, kk2, kk3, ↓two_true, ↓two_false, mkv, aggAt, Nat.reduceLeDiff, Nat.reduceSub, Nat.reduceMul, implies_true, Nat.reduceEqDiff, reduceIte, Nat.reduceAdd, Nat.reduceBEq, reduceCtorEq, al26, ap39_39, bd26, bs39_1, fa26_0, ld22, ld26, ln39, sn22, sl22, sn39, sl39, st26, twoSign_eq, ev1, ev2, h1, h2, h3, h4, h5, ki, ko, wi, q18.rd 0 rfl, q18.rd 1 rfl, q18.rd 6 rfl, q18.rd 7 rfl]
            -- back loop1
            refine ⟨(i + 1, a8, c8, ys2), (by simp only; omega), ⟨rfl, rfl, rfl, rfl, rfl, trivial⟩, ⟨by first | rfl | simp, rfl, hc, hz2⟩, ?_⟩
            simp only [List.set_cons_zero, List.set_cons_succ, scanL_step, hred]
            exact q18.pick [4, 5, 6, 7] _ rfl (by decide)
        ·
          have hil : i = (rowsR sa da).length := Nat.le_antisymm hi (Nat.not_lt.1 (by simpa using u4))
          subst hil
          obtain ⟨a9, c9, ev3, hv3⟩ := IntRow.tl a.os (by omega)
          try simp -implicitDefEqProofs only [kz, kk0, kk1, kk2, kk3, ↓two_true, ↓two_false, mkv, aggAt, Nat.reduceLeDiff, Nat.reduceSub, Nat.reduceMul, implies_true, Nat.reduceEqDiff, reduceIte, Nat.reduceAdd, Nat.reduceBEq, reduceCtorEq, al26, ap39_39, bd26, bs39_1, fa26_0, ld22, ld26, ln39, sn22, sl22, sn39, sl39, st26, twoSign_eq, ev3, h1, h2, h3, h4, h5, ki, ko, wi, q10.rd 2 rfl, q10.rd 3 rfl]
          refine (joined_ok (q10.rowsT 0 rfl).1 (hv3.ext q10.ext) (by rw [scanL_len]; omega) (by omega) (by have := scan_len (s := s) v1 v3 hz; omega) ).mono ?_
          rintro _ H16 ⟨p5, p6, rfl, g3⟩
          obtain ⟨R2, hR2⟩ : ∃ R, joinR (scanL s (rowsR sa da) (rowsR sa da).length) sa.tail = R := ⟨_, rfl⟩
          rw [hR2] at g3 ⊢
          have q19 := q10.join g3
          simp only [List.map_cons, List.map_nil, List.cons_append, List.nil_append] at q19
          obtain ⟨a10, c10, rfl⟩ := (q19.own 0 rfl).isSlice
          obtain ⟨a11, c11, rfl⟩ := (q19.own 1 rfl).isSlice
          simp -implicitDefEqProofs only [kz, kk0, kk1, kk2, kk3, ↓two_true, ↓two_false, mkv, aggAt, Nat.reduceLeDiff, Nat.reduceSub, Nat.reduceMul, implies_true, Nat.reduceEqDiff, reduceIte, Nat.reduceAdd, Nat.reduceBEq, reduceCtorEq, al26, ap39_39, bd26, bs39_1, fa26_0, ld22, ld26, ln39, sn22, sl22, sn39, sl39, st26, twoSign_eq, ev3, h1, h2, h3, h4, h5, ki, ko, wi, q19.rd 4 rfl, q19.rd 5 rfl]
          refine st_set q19 4 rfl fun H17 q20 => ?_
          simp only [List.set_cons_zero, List.set_cons_succ] at q20
          simp -implicitDefEqProofs only [kz, kk0, kk1, kk2, kk3, ↓two_true, ↓two_false, mkv, aggAt, Nat.reduceLeDiff, Nat.reduceSub, Nat.reduceMul, implies_true, Nat.reduceEqDiff, reduceIte, Nat.reduceAdd, Nat.reduceBEq, reduceCtorEq, al26, ap39_39, bd26, bs39_1, fa26_0, ld22, ld26, ln39, sn22, sl22, sn39, sl39, st26, twoSign_eq, ev3, h1, h2, h3, h4, h5, ki, ko, wi, q20.rd 4 rfl, q20.rd 5 rfl]
          -- end5
          exact q20.ans 0 1 (by decide) rfl rfl (by unfold scanR; rw [v1, v2, if_pos (by rfl), if_neg v3, if_neg v4, scanC_no hz, if_pos rfl, ← hR2]; unfold joinR; rw [scanL_len, (scan_ok (s := s) v1 v3 hz v4).1, if_pos rfl])

theorem specScan_ok {H : AH} {s : Int} {pa qa : Value} {sa da : List Int} (a : AR H pa qa sa da) : CallsA Try.prog 13 #[.int .i64 s, .agg #[pa, qa]] H fun r H' => Ans1 H H' r (scanR s sa da) := by
  have al := a.l1
  have bl := a.l2
  obtain ⟨za, zc, zb, zd, rfl, rfl⟩ := a.o1
  have q := (LX.nil (H := H))
  refine w13 ?_
  unfold k13
  simp -implicitDefEqProofs only [kz, kk0, kk1, kk2, kk3, ↓two_true, ↓two_false, mkv, aggAt, Nat.reduceLeDiff, Nat.reduceSub, Nat.reduceMul, implies_true, Nat.reduceEqDiff, reduceIte, Nat.reduceAdd, Nat.reduceBEq, reduceCtorEq, al26, ap39_39, bd26, bs39_0, bs39_1, fa26_0, ld22, ld26, ln22, ln39, sn22, sl22, sn39, sl39, st26, l1Sign2_eq]
  refine st_box q fun H1 q1 => ?_
  simp -implicitDefEqProofs only [kz, kk0, kk1, kk2, kk3, ↓two_true, ↓two_false, mkv, aggAt, Nat.reduceLeDiff, Nat.reduceSub, Nat.reduceMul, implies_true, Nat.reduceEqDiff, reduceIte, Nat.reduceAdd, Nat.reduceBEq, reduceCtorEq, al26, ap39_39, bd26, bs39_0, bs39_1, fa26_0, ld22, ld26, ln22, ln39, sn22, sl22, sn39, sl39, st26, l1Sign2_eq, q1.rd 0 rfl]
  refine st_box q1 fun H2 q2 => ?_
  simp -implicitDefEqProofs only [kz, kk0, kk1, kk2, kk3, ↓two_true, ↓two_false, mkv, aggAt, Nat.reduceLeDiff, Nat.reduceSub, Nat.reduceMul, implies_true, Nat.reduceEqDiff, reduceIte, Nat.reduceAdd, Nat.reduceBEq, reduceCtorEq, al26, ap39_39, bd26, bs39_0, bs39_1, fa26_0, ld22, ld26, ln22, ln39, sn22, sl22, sn39, sl39, st26, l1Sign2_eq, q2.rd 0 rfl, q2.rd 1 rfl]
  refine (specOk_ar (a.ext q2.ext)).mono ?_
  rintro _ H3 ⟨rfl, he1⟩
  have q3 := q2.extd he1
  simp -implicitDefEqProofs only [kz, kk0, kk1, kk2, kk3, ↓two_true, ↓two_false, mkv, aggAt, Nat.reduceLeDiff, Nat.reduceSub, Nat.reduceMul, implies_true, Nat.reduceEqDiff, reduceIte, Nat.reduceAdd, Nat.reduceBEq, reduceCtorEq, al26, ap39_39, bd26, bs39_0, bs39_1, fa26_0, ld22, ld26, ln22, ln39, sn22, sl22, sn39, sl39, st26, l1Sign2_eq, q3.rd 0 rfl, q3.rd 1 rfl]
  refine two_intro (fun u1 => ?_) (fun u1 => ?_)
  ·
    try simp -implicitDefEqProofs only [kz, kk0, kk1, kk2, kk3, ↓two_true, ↓two_false, mkv, aggAt, Nat.reduceLeDiff, Nat.reduceSub, Nat.reduceMul, implies_true, Nat.reduceEqDiff, reduceIte, Nat.reduceAdd, Nat.reduceBEq, reduceCtorEq, al26, ap39_39, bd26, bs39_0, bs39_1, fa26_0, ld22, ld26, ln22, ln39, sn22, sl22, sn39, sl39, st26, l1Sign2_eq, q3.rd 0 rfl, q3.rd 1 rfl]
    refine st_set q3 0 rfl fun H4 q4 => ?_
    simp only [List.set_cons_zero, List.set_cons_succ] at q4
    simp -implicitDefEqProofs only [kz, kk0, kk1, kk2, kk3, ↓two_true, ↓two_false, mkv, aggAt, Nat.reduceLeDiff, Nat.reduceSub, Nat.reduceMul, implies_true, Nat.reduceEqDiff, reduceIte, Nat.reduceAdd, Nat.reduceBEq, reduceCtorEq, al26, ap39_39, bd26, bs39_0, bs39_1, fa26_0, ld22, ld26, ln22, ln39, sn22, sl22, sn39, sl39, st26, l1Sign2_eq, q4.rd 0 rfl, q4.rd 1 rfl]
    -- end1
    exact q4.err (by simp [scanR, show arrOk sa da = false by simpa using u1])
  ·
    have v1 : arrOk sa da = true := by simpa using u1
    try simp -implicitDefEqProofs only [kz, kk0, kk1, kk2, kk3, ↓two_true, ↓two_false, mkv, aggAt, Nat.reduceLeDiff, Nat.reduceSub, Nat.reduceMul, implies_true, Nat.reduceEqDiff, reduceIte, Nat.reduceAdd, Nat.reduceBEq, reduceCtorEq, al26, ap39_39, bd26, bs39_0, bs39_1, fa26_0, ld22, ld26, ln22, ln39, sn22, sl22, sn39, sl39, st26, l1Sign2_eq, q3.rd 0 rfl, q3.rd 1 rfl]
    refine two_intro (fun u2 => ?_) (fun u2 => ?_)
    ·
      try simp -implicitDefEqProofs only [kz, kk0, kk1, kk2, kk3, ↓two_true, ↓two_false, mkv, aggAt, Nat.reduceLeDiff, Nat.reduceSub, Nat.reduceMul, implies_true, Nat.reduceEqDiff, reduceIte, Nat.reduceAdd, Nat.reduceBEq, reduceCtorEq, al26, ap39_39, bd26, bs39_0, bs39_1, fa26_0, ld22, ld26, ln22, ln39, sn22, sl22, sn39, sl39, st26, l1Sign2_eq, q3.rd 0 rfl, q3.rd 1 rfl]
      refine st_set q3 0 rfl fun H5 q5 => ?_
      simp only [List.set_cons_zero, List.set_cons_succ] at q5
      simp -implicitDefEqProofs only [kz, kk0, kk1, kk2, kk3, ↓two_true, ↓two_false, mkv, aggAt, Nat.reduceLeDiff, Nat.reduceSub, Nat.reduceMul, implies_true, Nat.reduceEqDiff, reduceIte, Nat.reduceAdd, Nat.reduceBEq, reduceCtorEq, al26, ap39_39, bd26, bs39_0, bs39_1, fa26_0, ld22, ld26, ln22, ln39, sn22, sl22, sn39, sl39, st26, l1Sign2_eq, q5.rd 0 rfl, q5.rd 1 rfl]
      -- end2
      exact q5.err (by simp [scanR, show sg2 s = false by simpa using u2])
    ·
      have v2 : sg2 s = true := by simpa using u2
      try simp -implicitDefEqProofs only [kz, kk0, kk1, kk2, kk3, ↓two_true, ↓two_false, mkv, aggAt, Nat.reduceLeDiff, Nat.reduceSub, Nat.reduceMul, implies_true, Nat.reduceEqDiff, reduceIte, Nat.reduceAdd, Nat.reduceBEq, reduceCtorEq, al26, ap39_39, bd26, bs39_0, bs39_1, fa26_0, ld22, ld26, ln22, ln39, sn22, sl22, sn39, sl39, st26, l1Sign2_eq, q3.rd 0 rfl, q3.rd 1 rfl]
      refine two_intro (fun u3 => ?_) (fun u3 => ?_)
      ·
        have v3 : sa.length = 0 := by simpa using u3
        try simp -implicitDefEqProofs only [kz, kk0, kk1, kk2, kk3, ↓two_true, ↓two_false, mkv, aggAt, Nat.reduceLeDiff, Nat.reduceSub, Nat.reduceMul, implies_true, Nat.reduceEqDiff, reduceIte, Nat.reduceAdd, Nat.reduceBEq, reduceCtorEq, al26, ap39_39, bd26, bs39_0, bs39_1, fa26_0, ld22, ld26, ln22, ln39, sn22, sl22, sn39, sl39, st26, l1Sign2_eq, q3.rd 0 rfl, q3.rd 1 rfl]
        refine (l3CopyA_ok (a.ext q3.ext)).mono ?_
        rintro _ H6 ⟨p1, p2, rfl, g1⟩
        have q6 := q3.join g1
        simp only [List.map_cons, List.map_nil, List.cons_append, List.nil_append] at q6
        obtain ⟨a1, c1, rfl⟩ := (q6.own 0 rfl).isSlice
        obtain ⟨a2, c2, rfl⟩ := (q6.own 1 rfl).isSlice
        simp -implicitDefEqProofs only [kz, kk0, kk1, kk2, kk3, ↓two_true, ↓two_false, mkv, aggAt, Nat.reduceLeDiff, Nat.reduceSub, Nat.reduceMul, implies_true, Nat.reduceEqDiff, reduceIte, Nat.reduceAdd, Nat.reduceBEq, reduceCtorEq, al26, ap39_39, bd26, bs39_0, bs39_1, fa26_0, ld22, ld26, ln22, ln39, sn22, sl22, sn39, sl39, st26, l1Sign2_eq, q6.rd 2 rfl, q6.rd 3 rfl]
        refine st_set q6 2 rfl fun H7 q7 => ?_
        simp only [List.set_cons_zero, List.set_cons_succ] at q7
        simp -implicitDefEqProofs only [kz, kk0, kk1, kk2, kk3, ↓two_true, ↓two_false, mkv, aggAt, Nat.reduceLeDiff, Nat.reduceSub, Nat.reduceMul, implies_true, Nat.reduceEqDiff, reduceIte, Nat.reduceAdd, Nat.reduceBEq, reduceCtorEq, al26, ap39_39, bd26, bs39_0, bs39_1, fa26_0, ld22, ld26, ln22, ln39, sn22, sl22, sn39, sl39, st26, l1Sign2_eq, q7.rd 2 rfl, q7.rd 3 rfl]
        -- end3
        exact q7.ans 0 1 (by decide) rfl rfl (by unfold scanR; rw [v1, v2, if_pos (by rfl), if_pos v3])
      ·
        have v3 : sa.length ≠ 0 := by simpa using u3
        have hne : sa ≠ [] := by rintro rfl; exact v3 rfl
        obtain ⟨m1, m2, m3⟩ := rowsR_lim v1 v3
        have hsl3 : sa.length ≤ 3 := (sizeI_ok (by have := (arrOk_size v1).1; omega)).1
        have htl : sa.tail.length ≤ 3 := by simp; omega
        try simp -implicitDefEqProofs only [kz, kk0, kk1, kk2, kk3, ↓two_true, ↓two_false, mkv, aggAt, Nat.reduceLeDiff, Nat.reduceSub, Nat.reduceMul, implies_true, Nat.reduceEqDiff, reduceIte, Nat.reduceAdd, Nat.reduceBEq, reduceCtorEq, al26, ap39_39, bd26, bs39_0, bs39_1, fa26_0, ld22, ld26, ln22, ln39, sn22, sl22, sn39, sl39, st26, l1Sign2_eq, q3.rd 0 rfl, q3.rd 1 rfl]
        refine (l3Rows_ok (a.ext q3.ext) v1 hne).mono ?_
        rintro rv1 H8 ⟨⟨ys1, nw1, cv1⟩, he2⟩
        have q8 := q3.nrows nw1 cv1 he2
        obtain ⟨a3, c3, rfl, -⟩ := (q8.rowsF 0 rfl).1
        simp -implicitDefEqProofs only [kz, kk0, kk1, kk2, kk3, ↓two_true, ↓two_false, mkv, aggAt, Nat.reduceLeDiff, Nat.reduceSub, Nat.reduceMul, implies_true, Nat.reduceEqDiff, reduceIte, Nat.reduceAdd, Nat.reduceBEq, reduceCtorEq, al26, ap39_39, bd26, bs39_0, bs39_1, fa26_0, ld22, ld26, ln22, ln39, sn22, sl22, sn39, sl39, st26, l1Sign2_eq, q8.rd 1 rfl, q8.rd 2 rfl]
        refine st_cells q8 fun H9 q9 => ?_
        simp -implicitDefEqProofs only [kz, kk0, kk1, kk2, kk3, ↓two_true, ↓two_false, mkv, aggAt, Nat.reduceLeDiff, Nat.reduceSub, Nat.reduceMul, implies_true, Nat.reduceEqDiff, reduceIte, Nat.reduceAdd, Nat.reduceBEq, reduceCtorEq, al26, ap39_39, bd26, bs39_0, bs39_1, fa26_0, ld22, ld26, ln22, ln39, sn22, sl22, sn39, sl39, st26, l1Sign2_eq, q9.rd 0 rfl, q9.rd 2 rfl, q9.rd 3 rfl]
        have q10 := q9.tab0 0 rfl [.r, .r] 2 rfl
        simp only [List.set_cons_zero, List.set_cons_succ] at q10
        refine rW_loopQ (σ := Nat × Option Addr × Nat × List Value) q10 [0, 3, 4, 6] (fun x tm => tm 8 = .int .i64 x.1 ∧ tm 7 = .slice x.2.1 x.1 x.2.2.1 ∧ x.1 ≤ (rowsR sa da).length ∧ ∀ j, j < x.1 → (redL s ((rowsR sa da).take (j + 1))).2 = 0) (fun x L => L.set 0 (.tab (.slice x.2.1 x.1 x.2.2.1) [.r, .r] x.1 x.2.2.2 (rowsV (scanL s (rowsR sa da) x.1)))) (fun x => (rowsR sa da).length - x.1) (0, some ⟨H8.length, 0, none⟩, 2, []) ⟨rfl, rfl, Nat.zero_le _, fun j hj => by simp at hj⟩ rfl ?_
        rintro ⟨i, av, cv, ys⟩ tm1 H10 ⟨h1, h2, h3, h4, -⟩ ⟨ki, ko, hi, hz⟩ q11
        simp -implicitDefEqProofs only [kz, kk0, kk1, kk2, kk3, ↓two_true, ↓two_false, mkv, aggAt, Nat.reduceLeDiff, Nat.reduceSub, Nat.reduceMul, implies_true, Nat.reduceEqDiff, reduceIte, Nat.reduceAdd, Nat.reduceBEq, reduceCtorEq, al26, ap39_39, bd26, bs39_0, bs39_1, fa26_0, ld22, ld26, ln22, ln39, sn22, sl22, sn39, sl39, st26] at h1 h2 h3 h4
        simp only [List.set_cons_zero, List.set_cons_succ] at q11
        simp only at ki ko hi hz
        have wi : IntKind.i64.wrap ((i : Int) + 1) = ((i + 1 : Nat) : Int) := IntWalk.i64_in ((i : Int) + 1) (by omega)
        simp -implicitDefEqProofs only [kz, kk0, kk1, kk2, kk3, ↓two_true, ↓two_false, mkv, aggAt, Nat.reduceLeDiff, Nat.reduceSub, Nat.reduceMul, implies_true, Nat.reduceEqDiff, reduceIte, Nat.reduceAdd, Nat.reduceBEq, reduceCtorEq, al26, ap39_39, bd26, bs39_0, bs39_1, fa26_0, ld22, ld26, ln22, ln39, sn22, sl22, sn39, sl39, st26, l1Sign2_eq, h1, h2, h3, h4, ki, ko, wi, q11.rd 2 rfl, q11.rd 3 rfl]
        refine two_intro (fun u4 => ?_) (fun u4 => ?_)
        ·
          have hc : i < (rowsR sa da).length := by simpa using u4
          obtain ⟨a4, c4, ev1, hv1⟩ := RowsA.tk (k := i + 1) (q11.rowsF 1 rfl).1 hc (by omega)
          obtain ⟨a5, c5, ev2, hv2⟩ := IntRow.tl a.os (by omega)
          try simp -implicitDefEqProofs only [kz, kk0, kk1, kk2, kk3, ↓two_true, ↓two_false, mkv, aggAt, Nat.reduceLeDiff, Nat.reduceSub, Nat.reduceMul, implies_true, Nat.reduceEqDiff, reduceIte, Nat.reduceAdd, Nat.reduceBEq, reduceCtorEq, al26, ap39_39, bd26, bs39_0, bs39_1, fa26_0, ld22, ld26, ln22, ln39, sn22, sl22, sn39, sl39, st26, l1Sign2_eq, ev1, ev2, h1, h2, h3, h4, ki, ko, wi, q11.rd 2 rfl, q11.rd 3 rfl]
          refine (l7Reduce_ok (s := s) hv1 (hv2.ext q11.ext) (by rw [List.length_take]; omega) (by omega) (fun r hr => ⟨by have := (m3 r (List.mem_of_mem_take hr)).2.1; omega, by have := (m3 r (List.mem_of_mem_take hr)).2.2.2.1; omega⟩) (fun h => absurd h (by rw [List.length_take]; omega)) ).mono ?_
          rintro _ H11 ⟨p3, p4, rfl, g2⟩
          obtain ⟨R1, hR1⟩ : ∃ R, redR s ((rowsR sa da).take (i + 1)) sa.tail = R := ⟨_, rfl⟩
          rw [hR1] at g2 ⊢
          have q12 := q11.join g2
          simp only [List.map_cons, List.map_nil, List.cons_append, List.nil_append] at q12
          obtain ⟨a6, c6, rfl⟩ := (q12.own 0 rfl).isSlice
          obtain ⟨a7, c7, rfl⟩ := (q12.own 1 rfl).isSlice
          have hred : redL s ((rowsR sa da).take (i + 1)) = R1 := by rw [← hR1]; unfold redR; rw [if_neg (by rw [List.length_take]; omega)]
          simp -implicitDefEqProofs only [kz, kk0, kk1, kk2, kk3, ↓two_true, ↓two_false, mkv, aggAt, Nat.reduceLeDiff, Nat.reduceSub, Nat.reduceMul, implies_true, Nat.reduceEqDiff, reduceIte, Nat.reduceAdd, Nat.reduceBEq, reduceCtorEq, al26, ap39_39, bd26, bs39_0, bs39_1, fa26_0, ld22, ld26, ln22, ln39, sn22, sl22, sn39, sl39, st26, l1Sign2_eq, ev1, ev2, h1, h2, h3, h4, ki, ko, wi, q12.rd 4 rfl, q12.rd 5 rfl, q11.rd 2 rfl, q11.rd 3 rfl]
          refine st_box q12 fun H12 q13 => ?_
          simp -implicitDefEqProofs only [kz, kk0, kk1, kk2, kk3, ↓two_true, ↓two_false, mkv, aggAt, Nat.reduceLeDiff, Nat.reduceSub, Nat.reduceMul, implies_true, Nat.reduceEqDiff, reduceIte, Nat.reduceAdd, Nat.reduceBEq, reduceCtorEq, al26, ap39_39, bd26, bs39_0, bs39_1, fa26_0, ld22, ld26, ln22, ln39, sn22, sl22, sn39, sl39, st26, l1Sign2_eq, ev1, ev2, h1, h2, h3, h4, ki, ko, wi, q13.rd 0 rfl, q13.rd 5 rfl, q13.rd 6 rfl, q11.rd 2 rfl, q11.rd 3 rfl, q12.rd 4 rfl, q12.rd 5 rfl]
          refine st_set q13 0 rfl fun H13 q14 => ?_
          simp only [List.set_cons_zero, List.set_cons_succ] at q14
          simp -implicitDefEqProofs only [kz, kk0, kk1, kk2, kk3, ↓two_true, ↓two_false, mkv, aggAt, Nat.reduceLeDiff, Nat.reduceSub, Nat.reduceMul, implies_true, Nat.reduceEqDiff, reduceIte, Nat.reduceAdd, Nat.reduceBEq, reduceCtorEq, al26, ap39_39, bd26, bs39_0, bs39_1, fa26_0, ld22, ld26, ln22, ln39, sn22, sl22, sn39, sl39, st26, l1Sign2_eq, ev1, ev2, h1, h2, h3, h4, ki, ko, wi, q14.rd 0 rfl, q14.rd 5 rfl, q14.rd 6 rfl, q11.rd 2 rfl, q11.rd 3 rfl, q12.rd 4 rfl, q12.rd 5 rfl, q13.rd 0 rfl, q13.rd 5 rfl, q13.rd 6 rfl]
          try simp -implicitDefEqProofs only [kz, kk0, kk1, kk2, kk3, ↓two_true, ↓two_false, mkv, aggAt, Nat.reduceLeDiff, Nat.reduceSub, Nat.reduceMul, implies_true, Nat.reduceEqDiff, reduceIte, Nat.reduceAdd, Nat.reduceBEq, reduceCtorEq, al26, ap39_39, bd26, bs39_0, bs39_1, fa26_0, ld22, ld26, ln22, ln39, sn22, sl22, sn39, sl39, st26, l1Sign2_eq, ev1, ev2, h1, h2, h3, h4, ki, ko, wi, q14.rd 0 rfl, q14.rd 5 rfl, q14.rd 6 rfl]
          refine two_intro (fun u5 => ?_) (fun u5 => ?_)
          ·
            have v4 : (rowsR sa da).length ≠ 0 := by omega
            have hne : R1.2 ≠ 0 := by simpa using u5
            have hC := scanC_at (s := s) hc hz (by rw [hred]; exact hne)
            rw [hred] at hC
            try simp -implicitDefEqProofs only [kz, kk0, kk1, kk2, kk3, ↓two_true, ↓two_false, mkv, aggAt, Nat.reduceLeDiff, Nat.reduceSub, Nat.reduceMul, implies_true, Nat.reduceEqDiff, reduceIte, Nat.reduceAdd, Nat.reduceBEq, reduceCtorEq, al26, ap39_39, bd26, bs39_0, bs39_1, fa26_0, ld22, ld26, ln22, ln39, sn22, sl22, sn39, sl39, st26, l1Sign2_eq, ev1, ev2, h1, h2, h3, h4, ki, ko, wi, q14.rd 0 rfl, q14.rd 5 rfl, q14.rd 6 rfl]
            refine st_set q14 5 rfl fun H14 q15 => ?_
            simp only [List.set_cons_zero, List.set_cons_succ] at q15
            simp -implicitDefEqProofs only [kz, kk0, kk1, kk2, kk3, ↓two_true, ↓two_false, mkv, aggAt, Nat.reduceLeDiff, Nat.reduceSub, Nat.reduceMul, implies_true, Nat.reduceEqDiff, reduceIte, Nat.reduceAdd, Nat.reduceBEq, reduceCtorEq, al26, ap39_39, bd26, bs39_0, bs39_1, fa26_0, ld22, ld26, ln22, ln39, sn22, sl22, sn39, sl39, st26, l1Sign2_eq, ev1, ev2, h1, h2, h3, h4, ki, ko, wi, q15.rd 0 rfl, q15.rd 5 rfl, q15.rd 6 rfl]
            -- end4
            exact q15.err (by unfold scanR; rw [v1, v2, if_pos (by rfl), if_neg v3, if_neg v4, hC]; exact if_neg hne)
          ·
            have hz1 : R1.2 = 0 := by simpa using u5
            have hz2 : ∀ j, j < i + 1 → (redL s ((rowsR sa da).take (j + 1))).2 = 0 := fun j hj => by
              rcases Nat.lt_or_ge j i with h | h
              · exact hz j h
              · have e : j = i := (by omega)
                rw [e, hred]; exact hz1
            have hrl : R1.1.1.length ≤ 3 ∧ R1.1.2.length ≤ 300 := by
              obtain ⟨m, _, e2, e3⟩ := scan_rows (s := s) v1 v3 (k := i + 1) hc hz2
              have := e3 R1.1 (by rw [scanL_step, hred]; simp)
              omega
            try simp -implicitDefEqProofs only [kz, kk0, kk1, kk2, kk3, ↓two_true, ↓two_false, mkv, aggAt, Nat.reduceLeDiff, Nat.reduceSub, Nat.reduceMul, implies_true, Nat.reduceEqDiff, reduceIte, Nat.reduceAdd, Nat.reduceBEq, reduceCtorEq, al26, ap39_39, bd26, bs39_0, bs39_1, fa26_0, ld22, ld26, ln22, ln39, sn22, sl22, sn39, sl39, st26, l1Sign2_eq, ev1, ev2, h1, h2, h3, h4, ki, ko, wi, q14.rd 0 rfl, q14.rd 5 rfl, q14.rd 6 rfl]
            refine st_cells q14 fun H15 q16 => ?_
            simp -implicitDefEqProofs only [kz, kk0, kk1, kk2, kk3, ↓two_true, ↓two_false, mkv, aggAt, Nat.reduceLeDiff, Nat.reduceSub, Nat.reduceMul, implies_true, Nat.reduceEqDiff, reduceIte, Nat.reduceAdd, Nat.reduceBEq, reduceCtorEq, al26, ap39_39, bd26, bs39_0, bs39_1, fa26_0, ld22, ld26, ln22, ln39, sn22, sl22, sn39, sl39, st26, l1Sign2_eq, ev1, ev2, h1, h2, h3, h4, ki, ko, wi, q16.rd 0 rfl, q16.rd 1 rfl, q16.rd 6 rfl, q16.rd 7 rfl]
            have q17 := q16.fzr 2 rfl
            simp only [List.set_cons_zero, List.set_cons_succ] at q17
            have q18 := q17.fzr 3 rfl
            simp only [List.set_cons_zero, List.set_cons_succ] at q18
            refine st_app2 q18 4 0 2 3 rfl rfl rfl rfl (by omega) (by omega) (by omega) fun a8 c8 H16 ys2 q19 => ?_
            simp only [List.set_cons_zero, List.set_cons_succ] at q19
            simp -implicitDefEqProofs only [kz, kk0, kk1, kk2, kk3, ↓two_true, ↓two_false, mkv, aggAt, Nat.reduceLeDiff, Nat.reduceSub, Nat.reduceMul, implies_true, Nat.reduceEqDiff, reduceIte, Nat.reduceAdd, Nat.reduceBEq, reduceCtorEq, al26, ap39_39, bd26, bs39_0, bs39_1, fa26_0, ld22, ld26, ln22, ln39, sn22, sl22, sn39, sl39, st26, l1Sign2_eq, ev1, ev2, h1, h2, h3, h4, ki, ko, wi, q19.rd 0 rfl, q19.rd 1 rfl, q19.rd 6 rfl, q19.rd 7 rfl]
            -- back loop1
            refine ⟨(i + 1, a8, c8, ys2), (by simp only; omega), ⟨rfl, rfl, rfl, rfl, trivial⟩, ⟨by first | rfl | simp, rfl, hc, hz2⟩, ?_⟩
            simp only [List.set_cons_zero, List.set_cons_succ, scanL_step, hred]
            exact q19.pick [4, 5, 6, 7] _ rfl (by decide)
        ·
          have hil : i = (rowsR sa da).length := Nat.le_antisymm hi (Nat.not_lt.1 (by simpa using u4))
          subst hil
          obtain ⟨a9, c9, ev3, hv3⟩ := IntRow.tl a.os (by omega)
          try simp -implicitDefEqProofs only [kz, kk0, kk1, kk2, kk3, ↓two_true, ↓two_false, mkv, aggAt, Nat.reduceLeDiff, Nat.reduceSub, Nat.reduceMul, implies_true, Nat.reduceEqDiff, reduceIte, Nat.reduceAdd, Nat.reduceBEq, reduceCtorEq, al26, ap39_39, bd26, bs39_0, bs39_1, fa26_0, ld22, ld26, ln22, ln39, sn22, sl22, sn39, sl39, st26, l1Sign2_eq, ev3, h1, h2, h3, h4, ki, ko, wi, q11.rd 2 rfl, q11.rd 3 rfl]
          refine (l5Rows_ok (q11.rowsT 0 rfl).1 (hv3.ext q11.ext) (by rw [scanL_len]; omega) (by omega) (by have := scan_len (s := s) v1 v3 hz; omega) ).mono ?_
          rintro _ H17 ⟨p5, p6, rfl, g3⟩
          have q20 := q11.join g3
          simp only [List.map_cons, List.map_nil, List.cons_append, List.nil_append] at q20
          obtain ⟨a10, c10, rfl⟩ := (q20.own 0 rfl).isSlice
          obtain ⟨a11, c11, rfl⟩ := (q20.own 1 rfl).isSlice
          simp -implicitDefEqProofs only [kz, kk0, kk1, kk2, kk3, ↓two_true, ↓two_false, mkv, aggAt, Nat.reduceLeDiff, Nat.reduceSub, Nat.reduceMul, implies_true, Nat.reduceEqDiff, reduceIte, Nat.reduceAdd, Nat.reduceBEq, reduceCtorEq, al26, ap39_39, bd26, bs39_0, bs39_1, fa26_0, ld22, ld26, ln22, ln39, sn22, sl22, sn39, sl39, st26, l1Sign2_eq, ev3, h1, h2, h3, h4, ki, ko, wi, q20.rd 4 rfl, q20.rd 5 rfl]
          refine st_set q20 4 rfl fun H18 q21 => ?_
          simp only [List.set_cons_zero, List.set_cons_succ] at q21
          simp -implicitDefEqProofs only [kz, kk0, kk1, kk2, kk3, ↓two_true, ↓two_false, mkv, aggAt, Nat.reduceLeDiff, Nat.reduceSub, Nat.reduceMul, implies_true, Nat.reduceEqDiff, reduceIte, Nat.reduceAdd, Nat.reduceBEq, reduceCtorEq, al26, ap39_39, bd26, bs39_0, bs39_1, fa26_0, ld22, ld26, ln22, ln39, sn22, sl22, sn39, sl39, st26, l1Sign2_eq, ev3, h1, h2, h3, h4, ki, ko, wi, q21.rd 4 rfl, q21.rd 5 rfl]
          -- end5
          refine q21.ans 0 1 (by decide) rfl rfl ?_
          unfold scanR; rw [v1, v2, if_pos (by rfl), if_neg v3, scanC_no hz, scanL_len]
          by_cases v4 : (rowsR sa da).length = 0
          · obtain ⟨z1, z2⟩ := scan_zero v1 v3 v4
            rw [if_pos v4, v4]
            conv => lhs; rw [z1, z2]
            simp [scanL, flatD]
          · rw [if_neg v4, if_pos rfl]

theorem scanR_lim {s : Int} {sa da : List Int} : (scanR s sa da).1.1.length ≤ 1048576 ∧ (scanR s sa da).1.2.length ≤ 1048576 := by
  unfold scanR
  split
  · rename_i h
    simp only [Bool.and_eq_true] at h
    have h1 := arrOk_size h.1
    have h2 : sa.length ≤ 3 := (sizeI_ok (by omega)).1
    split
    · simp only; omega
    · rename_i v3
      split
      · simp only; omega
      · split
        · rename_i v4 hc
          refine ⟨by simp; omega, ?_⟩
          by_cases hz : ∀ j, j < (rowsR sa da).length → (redL s ((rowsR sa da).take (j + 1))).2 = 0
          · have := scan_len (s := s) h.1 v3 hz; simp only; omega
          · exfalso
            obtain ⟨j, hj⟩ := Classical.not_forall.1 hz
            obtain ⟨hj1, hj2⟩ := Classical.not_imp.1 hj
            have key : ∀ (k : Nat), (∃ j, j < k ∧ (redL s ((rowsR sa da).take (j + 1))).2 ≠ 0) → ∃ i, i < k ∧ (∀ j, j < i → (redL s ((rowsR sa da).take (j + 1))).2 = 0) ∧ (redL s ((rowsR sa da).take (i + 1))).2 ≠ 0 := by
              intro k
              induction k with
              | zero => rintro ⟨j, h, _⟩; omega
              | succ k ih =>
                intro ⟨j, h1, h2⟩
                by_cases h3 : ∃ j, j < k ∧ (redL s ((rowsR sa da).take (j + 1))).2 ≠ 0
                · obtain ⟨i, g1, g2⟩ := ih h3
                  exact ⟨i, by omega, g2⟩
                · have h4 : ∀ j, j < k → (redL s ((rowsR sa da).take (j + 1))).2 = 0 := fun j hj => Classical.byContradiction fun hn => h3 ⟨j, hj, hn⟩
                  have : j = k := by
                    rcases Nat.lt_or_ge j k with h5 | h5
                    · exact absurd (h4 j h5) h2
                    · omega
                  subst this
                  exact ⟨j, by omega, h4, h2⟩
            obtain ⟨i, g1, g2, g3⟩ := key _ ⟨j, hj1, hj2⟩
            have := scanC_at (s := s) g1 g2 g3
            rw [this] at hc
            exact g3 hc
        · simp
  · simp

theorem headD_get {l : List Int} (h : 0 < l.length) : l.headD 0 = l[0] := by
  cases l with
  | nil => simp at h
  | cons x l => rfl
theorem sameArray_ok {H : AH} {pa qa pb qb : Value} {sa da sb db : List Int} (a : AR H pa qa sa da) (b : AR H pb qb sb db) : CallsA Try.prog 23 #[.agg #[pa, qa], .agg #[pb, qb]] H fun r H' => r = .bool (sa == sb && da == db) ∧ ∃ K, H' = H ++ K := by
  have al := a.l1
  have bl := a.l2
  obtain ⟨za, zc, zb, zd, rfl, rfl⟩ := a.o1
  obtain ⟨ya, yc, yb, yd, rfl, rfl⟩ := b.o1
  have q := (LX.nil (H := H))
  refine w23 ?_
  unfold k23
  simp -implicitDefEqProofs only [kz, kk0, kk1, kk2, kk3, ↓two_true, ↓two_false, mkv, aggAt, Nat.reduceLeDiff, Nat.reduceSub, Nat.reduceMul, implies_true, Nat.reduceEqDiff, reduceIte, Nat.reduceAdd, Nat.reduceBEq, reduceCtorEq, fa26_0, fa26_1, ld22]
  refine st_box q fun H1 q1 => ?_
  simp -implicitDefEqProofs only [kz, kk0, kk1, kk2, kk3, ↓two_true, ↓two_false, mkv, aggAt, Nat.reduceLeDiff, Nat.reduceSub, Nat.reduceMul, implies_true, Nat.reduceEqDiff, reduceIte, Nat.reduceAdd, Nat.reduceBEq, reduceCtorEq, fa26_0, fa26_1, ld22, q1.rd 0 rfl]
  refine st_box q1 fun H2 q2 => ?_
  have es1 := fun Φ => (sameInts_ok (a.os.ext q2.ext) (b.os.ext q2.ext) (by (try simp only [List.length_cons, List.length_nil, List.length_append, List.length_replicate, List.length_map, List.length_take, List.length_drop]); omega)).eq0 (Φ := Φ)
  simp -implicitDefEqProofs only [kz, kk0, kk1, kk2, kk3, ↓two_true, ↓two_false, mkv, aggAt, Nat.reduceLeDiff, Nat.reduceSub, Nat.reduceMul, implies_true, Nat.reduceEqDiff, reduceIte, Nat.reduceAdd, Nat.reduceBEq, reduceCtorEq, fa26_0, fa26_1, ld22, es1, q2.rd 0 rfl, q2.rd 1 rfl]
  refine two_intro (fun u1 => ?_) (fun u1 => ?_)
  ·
    have es2 := fun Φ => (sameInts_ok (a.od.ext q2.ext) (b.od.ext q2.ext) (by (try simp only [List.length_cons, List.length_nil, List.length_append, List.length_replicate, List.length_map, List.length_take, List.length_drop]); omega)).eq0 (Φ := Φ)
    try simp -implicitDefEqProofs only [kz, kk0, kk1, kk2, kk3, ↓two_true, ↓two_false, mkv, aggAt, Nat.reduceLeDiff, Nat.reduceSub, Nat.reduceMul, implies_true, Nat.reduceEqDiff, reduceIte, Nat.reduceAdd, Nat.reduceBEq, reduceCtorEq, fa26_0, fa26_1, ld22, es1, es2, q2.rd 0 rfl, q2.rd 1 rfl]
    -- end1
    exact ⟨by rw [u1, Bool.true_and], q2.ext⟩
  ·
    try simp -implicitDefEqProofs only [kz, kk0, kk1, kk2, kk3, ↓two_true, ↓two_false, mkv, aggAt, Nat.reduceLeDiff, Nat.reduceSub, Nat.reduceMul, implies_true, Nat.reduceEqDiff, reduceIte, Nat.reduceAdd, Nat.reduceBEq, reduceCtorEq, fa26_0, fa26_1, ld22, es1, q2.rd 0 rfl, q2.rd 1 rfl]
    -- end2
    exact ⟨by rw [u1, Bool.false_and], q2.ext⟩

theorem scalarOf_ok {H : AH} {x : Int} (hx : numOk x = true) : CallsA Try.prog 27 #[.int .i64 x] H fun r H' => ∃ b, r = .tuple #[.agg #[.slice none 0 0, .slice (some ⟨b, 0, none⟩) 1 1], .bool true] ∧ LD none H H' [.row (.slice (some ⟨b, 0, none⟩) 1 1) [x]] := by
  have q := (LX.nil (H := H))
  refine w27 ?_
  unfold k27
  simp -implicitDefEqProofs only [kz, kk0, kk1, kk2, kk3, ↓two_true, ↓two_false, mkv, aggAt, Nat.reduceLeDiff, Nat.reduceSub, Nat.reduceMul, implies_true, Nat.reduceEqDiff, reduceIte, Nat.reduceAdd, Nat.reduceBEq, reduceCtorEq, al26, bd26, bs22_1, ld26, st26, implNumOk_eq]
  refine st_box q fun H1 q1 => ?_
  simp -implicitDefEqProofs only [kz, kk0, kk1, kk2, kk3, ↓two_true, ↓two_false, mkv, aggAt, Nat.reduceLeDiff, Nat.reduceSub, Nat.reduceMul, implies_true, Nat.reduceEqDiff, reduceIte, Nat.reduceAdd, Nat.reduceBEq, reduceCtorEq, al26, bd26, bs22_1, ld26, st26, implNumOk_eq, q1.rd 0 rfl]
  refine two_intro (fun u1 => ?_) (fun u1 => ?_)
  ·
    try simp -implicitDefEqProofs only [kz, kk0, kk1, kk2, kk3, ↓two_true, ↓two_false, mkv, aggAt, Nat.reduceLeDiff, Nat.reduceSub, Nat.reduceMul, implies_true, Nat.reduceEqDiff, reduceIte, Nat.reduceAdd, Nat.reduceBEq, reduceCtorEq, al26, bd26, bs22_1, ld26, st26, implNumOk_eq, q1.rd 0 rfl]
    refine st_set q1 0 rfl fun H2 q2 => ?_
    simp only [List.set_cons_zero, List.set_cons_succ] at q2
    simp -implicitDefEqProofs only [kz, kk0, kk1, kk2, kk3, ↓two_true, ↓two_false, mkv, aggAt, Nat.reduceLeDiff, Nat.reduceSub, Nat.reduceMul, implies_true, Nat.reduceEqDiff, reduceIte, Nat.reduceAdd, Nat.reduceBEq, reduceCtorEq, al26, bd26, bs22_1, ld26, st26, implNumOk_eq, q2.rd 0 rfl]
    -- end1
    rw [hx] at u1; cases u1
  ·
    try simp -implicitDefEqProofs only [kz, kk0, kk1, kk2, kk3, ↓two_true, ↓two_false, mkv, aggAt, Nat.reduceLeDiff, Nat.reduceSub, Nat.reduceMul, implies_true, Nat.reduceEqDiff, reduceIte, Nat.reduceAdd, Nat.reduceBEq, reduceCtorEq, al26, bd26, bs22_1, ld26, st26, implNumOk_eq, q1.rd 0 rfl]
    refine st_lit [x] rfl rfl q1 fun H3 q3 => ?_
    simp -implicitDefEqProofs only [kz, kk0, kk1, kk2, kk3, ↓two_true, ↓two_false, mkv, aggAt, Nat.reduceLeDiff, Nat.reduceSub, Nat.reduceMul, implies_true, Nat.reduceEqDiff, reduceIte, Nat.reduceAdd, Nat.reduceBEq, reduceCtorEq, al26, bd26, bs22_1, ld26, st26, implNumOk_eq, q3.rd 1 rfl]
    refine st_set q3 1 rfl fun H4 q4 => ?_
    simp only [List.set_cons_zero, List.set_cons_succ] at q4
    simp -implicitDefEqProofs only [kz, kk0, kk1, kk2, kk3, ↓two_true, ↓two_false, mkv, aggAt, Nat.reduceLeDiff, Nat.reduceSub, Nat.reduceMul, implies_true, Nat.reduceEqDiff, reduceIte, Nat.reduceAdd, Nat.reduceBEq, reduceCtorEq, al26, bd26, bs22_1, ld26, st26, implNumOk_eq, q4.rd 1 rfl]
    -- end2
    exact ⟨_, rfl, q4.give [0] (by decide) _ rfl⟩

theorem arrOk_scl {x : Int} (h : numOk x = true) : arrOk [] [x] = true := by
  unfold arrOk; simp [h]; decide
theorem ARes.ans {H H' : AH} {r : Value} {R : (List Int × List Int) × Int} (h : ARes H H' r R) : Ans1 H H' r R := by
  obtain ⟨⟨a, c, b, d, rfl, h1, h2, h3, h4, h5, h6⟩, he⟩ := h
  exact ⟨_, _, rfl, ((LD.nil (H := H)).nrow2 (H' := H') ⟨h2, h5⟩ ⟨h3, h6⟩ h4 he)⟩

theorem l1DrawSign_ok {H : AH} {cb : Nat} (hc : Cur H cb) : CallsA Try.prog 82 #[.pointer (some ⟨cb, 0, none⟩)] H fun r H' => (∃ x : Int, r = .int .i64 x) ∧ Frm cb H H' := by
  refine w82 ?_
  unfold k82
  simp -implicitDefEqProofs only [kz, kk0, kk1, kk2, kk3, ↓two_true, ↓two_false, oS_some, oM_some, mkv, aggAt, Nat.reduceLeDiff, Nat.reduceSub, Nat.reduceMul, implies_true, Nat.reduceEqDiff, reduceIte, Nat.reduceAdd, Nat.reduceBEq, reduceCtorEq, bs22_5, bs22_11]
  refine (l1Once_ok hc).mono ?_
  rintro _ H1 ⟨⟨b, rfl⟩, hf⟩
  have q := (LX.nilc hc).call hf
  simp -implicitDefEqProofs only [kz, kk0, kk1, kk2, kk3, ↓two_true, ↓two_false, mkv, aggAt, Nat.reduceLeDiff, Nat.reduceSub, Nat.reduceMul, implies_true, Nat.reduceEqDiff, reduceIte, Nat.reduceAdd, Nat.reduceBEq, reduceCtorEq, bs22_5, bs22_11]
  refine two_intro (fun h => ?_) (fun h => ?_)
  · refine st_lit [0, -1, 105, 300, 47] rfl rfl q fun H2 q => ?_
    simp -implicitDefEqProofs only [kz, kk0, kk1, kk2, kk3, ↓two_true, ↓two_false, mkv, aggAt, Nat.reduceLeDiff, Nat.reduceSub, Nat.reduceMul, implies_true, Nat.reduceEqDiff, reduceIte, Nat.reduceAdd, Nat.reduceBEq, reduceCtorEq, bs22_5, bs22_11]
    refine (l1PickInt_ok q.cur (q.own 0 rfl) (q.nc 0 rfl) (by decide)).mono ?_
    rintro _ H3 ⟨⟨x, rfl, -⟩, hf⟩
    simp -implicitDefEqProofs only [kz, kk0, kk1, kk2, kk3, ↓two_true, ↓two_false, mkv, aggAt, Nat.reduceLeDiff, Nat.reduceSub, Nat.reduceMul, implies_true, Nat.reduceEqDiff, reduceIte, Nat.reduceAdd, Nat.reduceBEq, reduceCtorEq, bs22_5, bs22_11]
    exact ⟨⟨x, rfl⟩, (q.call hf).frm⟩
  · refine st_lit [43, 45, 42, 37, 124, 38, 94, 61, 60, 62, 126] rfl rfl q fun H2 q => ?_
    simp -implicitDefEqProofs only [kz, kk0, kk1, kk2, kk3, ↓two_true, ↓two_false, mkv, aggAt, Nat.reduceLeDiff, Nat.reduceSub, Nat.reduceMul, implies_true, Nat.reduceEqDiff, reduceIte, Nat.reduceAdd, Nat.reduceBEq, reduceCtorEq, bs22_5, bs22_11]
    refine (l1PickInt_ok q.cur (q.own 0 rfl) (q.nc 0 rfl) (by decide)).mono ?_
    rintro _ H3 ⟨⟨x, rfl, -⟩, hf⟩
    simp -implicitDefEqProofs only [kz, kk0, kk1, kk2, kk3, ↓two_true, ↓two_false, mkv, aggAt, Nat.reduceLeDiff, Nat.reduceSub, Nat.reduceMul, implies_true, Nat.reduceEqDiff, reduceIte, Nat.reduceAdd, Nat.reduceBEq, reduceCtorEq, bs22_5, bs22_11]
    exact ⟨⟨x, rfl⟩, (q.call hf).frm⟩

theorem at_ok {H : AH} {v : Value} {i : Nat} (hv : BRv H v) (hi : i ≤ 1000) : CallsA Try.prog 26 #[v, .int .i64 i] H fun r H' => (∃ x : Int, r = .int .i64 x ∧ 0 ≤ x ∧ x ≤ 255) ∧ H' = H := by
  obtain ⟨a, n, c, rfl, hn, hr⟩ := hv
  refine w26 ?_
  unfold k26
  have w1 : IntKind.i64.wrap ((i : Int) * 7) = (i : Int) * 7 := IntWalk.i64_in _ (by omega)
  have w2 : IntKind.i64.wrap ((i : Int) * 7 + (n : Int)) = (i : Int) * 7 + (n : Int) := IntWalk.i64_in _ (by omega)
  simp -implicitDefEqProofs only [kz, kk0, kk1, kk2, kk3, ↓two_true, ↓two_false, oS_some, oM_some, mkv, aggAt, Nat.reduceLeDiff, Nat.reduceSub, Nat.reduceMul, implies_true, Nat.reduceEqDiff, reduceIte, Nat.reduceAdd, Nat.reduceBEq, reduceCtorEq, cv5_3, ix35, ld5, ln35, w1, w2, bin_rem (show (256 : Int) ≠ 0 by decide)]
  refine two_intro (fun hlt => ?_) (fun hlt => ?_)
  · have hlt' : i < n := by simpa using hlt
    obtain ⟨b, o, cs, rfl, rfl, hb, hcell⟩ := hr (by omega)
    obtain ⟨v, hv, v0, v1⟩ := hcell i hlt'
    have hrb : rd H b = some cs := by unfold rd; rw [hb]; rfl
    simp -implicitDefEqProofs only [kz, kk0, kk1, kk2, kk3, ↓two_true, ↓two_false, oS_some, oM_some, mkv, aggAt, Nat.reduceLeDiff, Nat.reduceSub, Nat.reduceMul, implies_true, Nat.reduceEqDiff, reduceIte, Nat.reduceAdd, Nat.reduceBEq, reduceCtorEq, cv5_3, ix35, ld5, ln35, Int.toNat_natCast, Nat.mul_one, hrb, hv]
    exact ⟨⟨by omega, by omega⟩, v, by first | rfl | (rw [IntWalk.i64_in _ (by omega)]), v0, v1⟩
  · have := tmod_rng (a := (i : Int) * 7 + (n : Int)) (n := 256) (by omega) (by decide)
    exact ⟨_, rfl, this.1, by omega⟩

theorem implAsRows_n {H : AH} {pa qa : Value} {sa da : List Int} (a : AR H pa qa sa da) (h0 : sa.length ≠ 0) : CallsA Try.prog 86 #[.agg #[pa, qa]] H fun r H' => r = .agg #[pa, qa] ∧ ∃ K, H' = H ++ K := by
  have al := a.l1
  have bl := a.l2
  obtain ⟨za, zc, zb, zd, rfl, rfl⟩ := a.o1
  have q := (LX.nil (H := H))
  refine w86 ?_
  unfold k86
  simp -implicitDefEqProofs only [kz, kk0, kk1, kk2, kk3, ↓two_true, ↓two_false, mkv, aggAt, Nat.reduceLeDiff, Nat.reduceSub, Nat.reduceMul, implies_true, Nat.reduceEqDiff, reduceIte, Nat.reduceAdd, Nat.reduceBEq, reduceCtorEq, al26, fa26_0, fa26_1, ld22, ld26, ln22, st26]
  refine st_box q fun H1 q1 => ?_
  simp -implicitDefEqProofs only [kz, kk0, kk1, kk2, kk3, ↓two_true, ↓two_false, mkv, aggAt, Nat.reduceLeDiff, Nat.reduceSub, Nat.reduceMul, implies_true, Nat.reduceEqDiff, reduceIte, Nat.reduceAdd, Nat.reduceBEq, reduceCtorEq, al26, fa26_0, fa26_1, ld22, ld26, ln22, st26, q1.rd 0 rfl]
  refine st_box q1 fun H2 q2 => ?_
  simp -implicitDefEqProofs only [kz, kk0, kk1, kk2, kk3, ↓two_true, ↓two_false, mkv, aggAt, Nat.reduceLeDiff, Nat.reduceSub, Nat.reduceMul, implies_true, Nat.reduceEqDiff, reduceIte, Nat.reduceAdd, Nat.reduceBEq, reduceCtorEq, al26, fa26_0, fa26_1, ld22, ld26, ln22, st26, q2.rd 0 rfl, q2.rd 1 rfl]
  refine two_intro (fun u1 => ?_) (fun u1 => ?_)
  ·
    exact absurd (by simpa using u1) h0
  ·
    try simp -implicitDefEqProofs only [kz, kk0, kk1, kk2, kk3, ↓two_true, ↓two_false, mkv, aggAt, Nat.reduceLeDiff, Nat.reduceSub, Nat.reduceMul, implies_true, Nat.reduceEqDiff, reduceIte, Nat.reduceAdd, Nat.reduceBEq, reduceCtorEq, al26, fa26_0, fa26_1, ld22, ld26, ln22, st26, q2.rd 0 rfl, q2.rd 1 rfl]
    refine st_set q2 0 rfl fun H3 q3 => ?_
    simp only [List.set_cons_zero, List.set_cons_succ] at q3
    simp -implicitDefEqProofs only [kz, kk0, kk1, kk2, kk3, ↓two_true, ↓two_false, mkv, aggAt, Nat.reduceLeDiff, Nat.reduceSub, Nat.reduceMul, implies_true, Nat.reduceEqDiff, reduceIte, Nat.reduceAdd, Nat.reduceBEq, reduceCtorEq, al26, fa26_0, fa26_1, ld22, ld26, ln22, st26, q3.rd 0 rfl, q3.rd 1 rfl]
    -- end1
    first | exact q3.ext | exact ⟨rfl, q3.ext⟩

theorem flat_zero {w : Nat} : (List.replicate w [Value.int .i64 0]).flatten = ints (List.replicate w 0) := by
  induction w with
  | zero => rfl
  | succ w ih => rw [List.replicate_succ, List.flatten_cons, ih]; simp [ints, List.replicate_succ]
theorem cast1t : ((1 : Nat) : Int) = 1 := rfl
theorem take_ok {sb db : List Int} {k : Nat} (h : arrOk sb db = true) (hne : sb.length ≠ 0) (h1 : 1 ≤ k) (h2 : k ≤ (rowsR sb db).length) : arrOk ((k : Int) :: sb.tail) (flatD ((rowsR sb db).take k)) = true ∧ 0 ≤ sizeI ((k : Int) :: sb.tail) ∧ (flatD ((rowsR sb db).take k)).length ≤ 300 := by
  obtain ⟨m1, m2, m3⟩ := rowsR_lim h hne
  obtain ⟨x, tl, e⟩ := List.exists_cons_of_ne_nil (show sb ≠ [] by rintro rfl; exact hne rfl)
  subst e
  have hs := arrOk_size h
  obtain ⟨n, rfl, hn3, hm⟩ := arrOk_rows h
  simp only [List.headD_cons, List.tail_cons] at m2 m3 ⊢
  obtain ⟨m, e1, e2, e3⟩ := hm (by omega)
  have hkm : k * m ≤ n * m := Nat.mul_le_mul_right m (by omega)
  obtain ⟨f1, f2, f3⟩ := sizeI_ok (l := tl) (by omega)
  obtain ⟨g1, g2, g3⟩ := sizeI_ok (l := (n : Int) :: tl) (by omega)
  have hp : prodI tl = (m : Int) := by omega
  have hz : sizeI ((k : Int) :: tl) = ((k * m : Nat) : Int) := by
    have hpk : prodI ((k : Int) :: tl) = ((k * m : Nat) : Int) := by rw [prodI_cons, hp, ← Int.natCast_mul]
    rw [sizeI_of (by simpa using g1) (by simp only [List.all_cons, Bool.and_eq_true] at g2 ⊢; exact ⟨inB_true.2 (by omega), g2.2⟩) (by rw [hpk]; omega), hpk]
  have hl : (flatD ((rowsR ((n : Int) :: tl) db).take k)).length = k * m := by
    rw [flatD_len (m := m) fun r hr => by have := (m3 r (List.mem_of_mem_take hr)).2.2.1; omega, List.length_take, Nat.min_eq_left h2]
  refine ⟨?_, by omega, by omega⟩
  unfold arrOk
  simp only [Bool.and_eq_true, beq_iff_eq]
  refine ⟨by rw [hz, hl], List.all_eq_true.2 fun y hy => ?_⟩
  obtain ⟨r, hr, hy⟩ := List.mem_flatMap.1 hy
  exact List.all_eq_true.1 (m3 r (List.mem_of_mem_take hr)).2.2.2.2 y hy

theorem implSingle_k {H : AH} {k : Nat} {pa qa pb qb : Value} {sb db : List Int} (a : AR H pa qa [] [(k : Int)]) (b : AR H pb qb sb db) (v2 : arrOk sb db = true) (hk : k ≤ 300) : CallsA Try.prog 85 #[.agg #[pa, qa], .agg #[pb, qb]] H fun r H' => r = .tuple #[.int .i64 (k : Int), .int .i64 0] ∧ ∃ K, H' = H ++ K := by
  have al2 := b.l1
  have bl2 := b.l2
  have v1 : arrOk [] [(k : Int)] = true := arrOk_scl (numOk_iff.2 (by omega))
  obtain ⟨za, zc, zb, zd, rfl, rfl⟩ := a.o1
  obtain ⟨ya, yc, yb, yd, rfl, rfl⟩ := b.o1
  have q := (LX.nil (H := H))
  refine w85 ?_
  unfold k85
  simp -implicitDefEqProofs only [kz, kk0, kk1, kk2, kk3, ↓two_true, ↓two_false, mkv, aggAt, Nat.reduceLeDiff, Nat.reduceSub, Nat.reduceMul, implies_true, Nat.reduceEqDiff, reduceIte, Nat.reduceAdd, Nat.reduceBEq, reduceCtorEq, fa26_1, ix22, ld3, ld22, ld26, ln22, v1, v2, Bool.not_true, bne_self_eq_false, cast1t]
  refine st_box q fun H1 q1 => ?_
  simp -implicitDefEqProofs only [kz, kk0, kk1, kk2, kk3, ↓two_true, ↓two_false, mkv, aggAt, Nat.reduceLeDiff, Nat.reduceSub, Nat.reduceMul, implies_true, Nat.reduceEqDiff, reduceIte, Nat.reduceAdd, Nat.reduceBEq, reduceCtorEq, fa26_1, ix22, ld3, ld22, ld26, ln22, v1, v2, Bool.not_true, bne_self_eq_false, cast1t, q1.rd 0 rfl]
  refine st_box q1 fun H2 q2 => ?_
  simp -implicitDefEqProofs only [kz, kk0, kk1, kk2, kk3, ↓two_true, ↓two_false, mkv, aggAt, Nat.reduceLeDiff, Nat.reduceSub, Nat.reduceMul, implies_true, Nat.reduceEqDiff, reduceIte, Nat.reduceAdd, Nat.reduceBEq, reduceCtorEq, fa26_1, ix22, ld3, ld22, ld26, ln22, v1, v2, Bool.not_true, bne_self_eq_false, cast1t, q2.rd 0 rfl, q2.rd 1 rfl]
  refine (implOk_ar (a.ext q2.ext)).mono ?_
  rintro _ H3 ⟨rfl, he1⟩
  have q3 := q2.extd he1
  simp -implicitDefEqProofs only [kz, kk0, kk1, kk2, kk3, ↓two_true, ↓two_false, mkv, aggAt, Nat.reduceLeDiff, Nat.reduceSub, Nat.reduceMul, implies_true, Nat.reduceEqDiff, reduceIte, Nat.reduceAdd, Nat.reduceBEq, reduceCtorEq, fa26_1, ix22, ld3, ld22, ld26, ln22, v1, v2, Bool.not_true, bne_self_eq_false, cast1t, q3.rd 0 rfl, q3.rd 1 rfl]
  refine (implOk_ar (b.ext q3.ext)).mono ?_
  rintro _ H4 ⟨rfl, he2⟩
  have q4 := q3.extd he2
  obtain ⟨b1, o1, cs1, ei1, fr1, fc1⟩ := ixI0 (a.od.ext q4.ext) (List.getElem?_eq_getElem (by simp))
  simp only [List.length_cons, List.length_nil, Nat.zero_add, List.getElem_cons_zero] at ei1 fc1
  simp -implicitDefEqProofs only [kz, kk0, kk1, kk2, kk3, ↓two_true, ↓two_false, mkv, aggAt, Nat.reduceLeDiff, Nat.reduceSub, Nat.reduceMul, implies_true, Nat.reduceEqDiff, reduceIte, Nat.reduceAdd, Nat.reduceBEq, reduceCtorEq, fa26_1, ix22, ld3, ld22, ld26, ln22, v1, v2, Bool.not_true, bne_self_eq_false, cast1t, ei1, fr1, fc1, q4.rd 0 rfl, q4.rd 1 rfl]
  -- end1
  first | exact q4.ext | exact ⟨rfl, q4.ext⟩

theorem implTake_k {H : AH} {k : Nat} {pa qa pb qb : Value} {sb db : List Int} (a : AR H pa qa [] [(k : Int)]) (b : AR H pb qb sb db) (v2 : arrOk sb db = true) (hne : sb.length ≠ 0) (hk1 : 1 ≤ k) (hk2 : k ≤ (rowsR sb db).length) : CallsA Try.prog 28 #[.agg #[pa, qa], .agg #[pb, qb]] H fun r H' => Ans1 H H' r (joinR ((rowsR sb db).take k) sb.tail) := by
  have al2 := b.l1
  have bl2 := b.l2
  obtain ⟨m1, m2, m3⟩ := rowsR_lim v2 hne
  have hk300 : k ≤ 300 := by omega
  have hsb3 : sb.length ≤ 3 := (sizeI_ok (by have := (arrOk_size v2).1; omega)).1
  obtain ⟨t1, t2, t3⟩ := take_ok v2 hne hk1 hk2
  have hsz : decide (sizeI ((k : Int) :: sb.tail) ≥ 0) = true := by simpa using t2
  obtain ⟨w, eW, hw⟩ : ∃ w : Nat, sizeI sb.tail = (w : Int) ∧ (0 ≤ (w : Int) ∧ (w : Int) ≤ 1073741824) := by
    obtain ⟨r, hr⟩ := List.exists_mem_of_length_pos (show 0 < (rowsR sb db).length by omega)
    have h5 := m3 r hr
    exact ⟨r.2.length, h5.2.2.1.symm, by omega, by omega⟩
  have wng : IntKind.i64.wrap (0 - (k : Int)) = 0 - (k : Int) := IntWalk.i64_in _ (by omega)
  have wmx : (if 0 - (k : Int) > (k : Int) then 0 - (k : Int) else (k : Int)) = (k : Int) := if_neg (by omega)
  obtain ⟨za, zc, zb, zd, rfl, rfl⟩ := a.o1
  obtain ⟨ya, yc, yb, yd, rfl, rfl⟩ := b.o1
  have q := (LX.nil (H := H))
  refine w28 ?_
  unfold k28
  simp -implicitDefEqProofs only [kz, kk0, kk1, kk2, kk3, ↓two_true, ↓two_false, mkv, aggAt, Nat.reduceLeDiff, Nat.reduceSub, Nat.reduceMul, implies_true, Nat.reduceEqDiff, reduceIte, Nat.reduceAdd, Nat.reduceBEq, reduceCtorEq, al26, ap22_22, ap39_39, bd26, bs22_1, bs39_1, fa26_0, ix22, ix39, ld3, ld22, ld26, ln39, ms22, sn22, sl22, st26, within_eq, bne_self_eq_false, wng, wmx, hsz, Bool.not_true, List.getElem_cons_zero]
  refine st_box q fun H1 q1 => ?_
  simp -implicitDefEqProofs only [kz, kk0, kk1, kk2, kk3, ↓two_true, ↓two_false, mkv, aggAt, Nat.reduceLeDiff, Nat.reduceSub, Nat.reduceMul, implies_true, Nat.reduceEqDiff, reduceIte, Nat.reduceAdd, Nat.reduceBEq, reduceCtorEq, al26, ap22_22, ap39_39, bd26, bs22_1, bs39_1, fa26_0, ix22, ix39, ld3, ld22, ld26, ln39, ms22, sn22, sl22, st26, within_eq, bne_self_eq_false, wng, wmx, hsz, Bool.not_true, List.getElem_cons_zero, q1.rd 0 rfl]
  refine st_box q1 fun H2 q2 => ?_
  simp -implicitDefEqProofs only [kz, kk0, kk1, kk2, kk3, ↓two_true, ↓two_false, mkv, aggAt, Nat.reduceLeDiff, Nat.reduceSub, Nat.reduceMul, implies_true, Nat.reduceEqDiff, reduceIte, Nat.reduceAdd, Nat.reduceBEq, reduceCtorEq, al26, ap22_22, ap39_39, bd26, bs22_1, bs39_1, fa26_0, ix22, ix39, ld3, ld22, ld26, ln39, ms22, sn22, sl22, st26, within_eq, bne_self_eq_false, wng, wmx, hsz, Bool.not_true, List.getElem_cons_zero, q2.rd 0 rfl, q2.rd 1 rfl]
  refine st_box q2 fun H3 q3 => ?_
  simp -implicitDefEqProofs only [kz, kk0, kk1, kk2, kk3, ↓two_true, ↓two_false, mkv, aggAt, Nat.reduceLeDiff, Nat.reduceSub, Nat.reduceMul, implies_true, Nat.reduceEqDiff, reduceIte, Nat.reduceAdd, Nat.reduceBEq, reduceCtorEq, al26, ap22_22, ap39_39, bd26, bs22_1, bs39_1, fa26_0, ix22, ix39, ld3, ld22, ld26, ln39, ms22, sn22, sl22, st26, within_eq, bne_self_eq_false, wng, wmx, hsz, Bool.not_true, List.getElem_cons_zero, q3.rd 0 rfl, q3.rd 1 rfl, q3.rd 2 rfl]
  refine (implSingle_k (k := k) (a.ext q3.ext) (b.ext q3.ext) v2 hk300).mono ?_
  rintro _ H4 ⟨rfl, he1⟩
  have q4 := q3.extd he1
  simp -implicitDefEqProofs only [kz, kk0, kk1, kk2, kk3, ↓two_true, ↓two_false, mkv, aggAt, Nat.reduceLeDiff, Nat.reduceSub, Nat.reduceMul, implies_true, Nat.reduceEqDiff, reduceIte, Nat.reduceAdd, Nat.reduceBEq, reduceCtorEq, al26, ap22_22, ap39_39, bd26, bs22_1, bs39_1, fa26_0, ix22, ix39, ld3, ld22, ld26, ln39, ms22, sn22, sl22, st26, within_eq, bne_self_eq_false, wng, wmx, hsz, Bool.not_true, List.getElem_cons_zero, q4.rd 0 rfl, q4.rd 1 rfl, q4.rd 2 rfl]
  refine (implAsRows_n (b.ext q4.ext) hne).mono ?_
  rintro _ H5 ⟨rfl, he2⟩
  have q5 := q4.extd he2
  simp -implicitDefEqProofs only [kz, kk0, kk1, kk2, kk3, ↓two_true, ↓two_false, mkv, aggAt, Nat.reduceLeDiff, Nat.reduceSub, Nat.reduceMul, implies_true, Nat.reduceEqDiff, reduceIte, Nat.reduceAdd, Nat.reduceBEq, reduceCtorEq, al26, ap22_22, ap39_39, bd26, bs22_1, bs39_1, fa26_0, ix22, ix39, ld3, ld22, ld26, ln39, ms22, sn22, sl22, st26, within_eq, bne_self_eq_false, wng, wmx, hsz, Bool.not_true, List.getElem_cons_zero, q5.rd 0 rfl, q5.rd 1 rfl, q5.rd 2 rfl]
  refine st_set q5 1 rfl fun H6 q6 => ?_
  simp only [List.set_cons_zero, List.set_cons_succ] at q6
  simp -implicitDefEqProofs only [kz, kk0, kk1, kk2, kk3, ↓two_true, ↓two_false, mkv, aggAt, Nat.reduceLeDiff, Nat.reduceSub, Nat.reduceMul, implies_true, Nat.reduceEqDiff, reduceIte, Nat.reduceAdd, Nat.reduceBEq, reduceCtorEq, al26, ap22_22, ap39_39, bd26, bs22_1, bs39_1, fa26_0, ix22, ix39, ld3, ld22, ld26, ln39, ms22, sn22, sl22, st26, within_eq, bne_self_eq_false, wng, wmx, hsz, Bool.not_true, List.getElem_cons_zero, q6.rd 0 rfl, q6.rd 1 rfl, q6.rd 2 rfl]
  refine st_lit [_] rfl rfl q6 fun H7 q7 => ?_
  obtain ⟨a1, c1, ev1, hv1⟩ := IntRow.tl b.os (by omega)
  simp -implicitDefEqProofs only [kz, kk0, kk1, kk2, kk3, ↓two_true, ↓two_false, mkv, aggAt, Nat.reduceLeDiff, Nat.reduceSub, Nat.reduceMul, implies_true, Nat.reduceEqDiff, reduceIte, Nat.reduceAdd, Nat.reduceBEq, reduceCtorEq, al26, ap22_22, ap39_39, bd26, bs22_1, bs39_1, fa26_0, ix22, ix39, ld3, ld22, ld26, ln39, ms22, sn22, sl22, st26, within_eq, bne_self_eq_false, wng, wmx, hsz, Bool.not_true, List.getElem_cons_zero, ev1, q7.rd 1 rfl, q7.rd 2 rfl, q7.rd 3 rfl]
  refine st_app q7 0 rfl (hv1.ext q7.ext) (by first | omega | (simp; omega)) fun a2 c2 H8 q8 => ?_
  simp only [List.set_cons_zero, List.set_cons_succ, List.length_nil, List.length_cons, Nat.zero_add, List.nil_append] at q8 ⊢
  have es1 := fun Φ => (implShapeOk_ok (q8.int 0 rfl) (by simp; omega)).eq0 (Φ := Φ)
  simp -implicitDefEqProofs only [kz, kk0, kk1, kk2, kk3, ↓two_true, ↓two_false, mkv, aggAt, Nat.reduceLeDiff, Nat.reduceSub, Nat.reduceMul, implies_true, Nat.reduceEqDiff, reduceIte, Nat.reduceAdd, Nat.reduceBEq, reduceCtorEq, al26, ap22_22, ap39_39, bd26, bs22_1, bs39_1, fa26_0, ix22, ix39, ld3, ld22, ld26, ln39, ms22, sn22, sl22, st26, within_eq, bne_self_eq_false, wng, wmx, hsz, Bool.not_true, List.getElem_cons_zero, ev1, es1, q8.rd 1 rfl, q8.rd 2 rfl, q8.rd 3 rfl]
  refine (implRows_ok (b.ext q8.ext)).mono ?_
  rintro rv1 H9 ⟨⟨ys1, nw1, cv1⟩, he3⟩
  rw [show rowsA sb db = rowsR sb db by unfold rowsA; rw [v2]; rfl] at nw1 cv1
  have q9 := q8.nrows nw1 cv1 he3
  obtain ⟨a3, c3, rfl, -⟩ := (q9.rowsF 0 rfl).1
  have es2 := fun Φ => (implSizeOf_ok (hv1.ext q9.ext) (by simp; omega)).eq0 (Φ := Φ)
  simp -implicitDefEqProofs only [kz, kk0, kk1, kk2, kk3, ↓two_true, ↓two_false, mkv, aggAt, Nat.reduceLeDiff, Nat.reduceSub, Nat.reduceMul, implies_true, Nat.reduceEqDiff, reduceIte, Nat.reduceAdd, Nat.reduceBEq, reduceCtorEq, al26, ap22_22, ap39_39, bd26, bs22_1, bs39_1, fa26_0, ix22, ix39, ld3, ld22, ld26, ln39, ms22, sn22, sl22, st26, within_eq, bne_self_eq_false, wng, wmx, hsz, Bool.not_true, List.getElem_cons_zero, ev1, es1, eW, if_pos hw, Int.toNat_natCast, es2, q9.rd 2 rfl, q9.rd 3 rfl, q9.rd 4 rfl]
  refine st_lit (List.replicate w 0) flat_zero (by simp) q9 fun H10 q10 => ?_
  simp -implicitDefEqProofs only [kz, kk0, kk1, kk2, kk3, ↓two_true, ↓two_false, mkv, aggAt, Nat.reduceLeDiff, Nat.reduceSub, Nat.reduceMul, implies_true, Nat.reduceEqDiff, reduceIte, Nat.reduceAdd, Nat.reduceBEq, reduceCtorEq, al26, ap22_22, ap39_39, bd26, bs22_1, bs39_1, fa26_0, ix22, ix39, ld3, ld22, ld26, ln39, ms22, sn22, sl22, st26, within_eq, bne_self_eq_false, wng, wmx, hsz, Bool.not_true, List.getElem_cons_zero, ev1, es1, eW, if_pos hw, Int.toNat_natCast, es2, q10.rd 3 rfl, q10.rd 4 rfl, q10.rd 5 rfl, q9.rd 2 rfl, q9.rd 3 rfl, q9.rd 4 rfl]
  refine st_box q10 fun H11 q11 => ?_
  simp -implicitDefEqProofs only [kz, kk0, kk1, kk2, kk3, ↓two_true, ↓two_false, mkv, aggAt, Nat.reduceLeDiff, Nat.reduceSub, Nat.reduceMul, implies_true, Nat.reduceEqDiff, reduceIte, Nat.reduceAdd, Nat.reduceBEq, reduceCtorEq, al26, ap22_22, ap39_39, bd26, bs22_1, bs39_1, fa26_0, ix22, ix39, ld3, ld22, ld26, ln39, ms22, sn22, sl22, st26, within_eq, bne_self_eq_false, wng, wmx, hsz, Bool.not_true, List.getElem_cons_zero, ev1, es1, eW, if_pos hw, Int.toNat_natCast, es2, q11.rd 0 rfl, q11.rd 4 rfl, q11.rd 5 rfl, q11.rd 6 rfl, q9.rd 2 rfl, q9.rd 3 rfl, q9.rd 4 rfl, q10.rd 3 rfl, q10.rd 4 rfl, q10.rd 5 rfl]
  refine st_set q11 0 rfl fun H12 q12 => ?_
  simp only [List.set_cons_zero, List.set_cons_succ] at q12
  simp -implicitDefEqProofs only [kz, kk0, kk1, kk2, kk3, ↓two_true, ↓two_false, mkv, aggAt, Nat.reduceLeDiff, Nat.reduceSub, Nat.reduceMul, implies_true, Nat.reduceEqDiff, reduceIte, Nat.reduceAdd, Nat.reduceBEq, reduceCtorEq, al26, ap22_22, ap39_39, bd26, bs22_1, bs39_1, fa26_0, ix22, ix39, ld3, ld22, ld26, ln39, ms22, sn22, sl22, st26, within_eq, bne_self_eq_false, wng, wmx, hsz, Bool.not_true, List.getElem_cons_zero, ev1, es1, eW, if_pos hw, Int.toNat_natCast, es2, q12.rd 0 rfl, q12.rd 4 rfl, q12.rd 5 rfl, q12.rd 6 rfl, q9.rd 2 rfl, q9.rd 3 rfl, q9.rd 4 rfl, q10.rd 3 rfl, q10.rd 4 rfl, q10.rd 5 rfl, q11.rd 0 rfl, q11.rd 4 rfl, q11.rd 5 rfl, q11.rd 6 rfl]
  try simp -implicitDefEqProofs only [kz, kk0, kk1, kk2, kk3, ↓two_true, ↓two_false, mkv, aggAt, Nat.reduceLeDiff, Nat.reduceSub, Nat.reduceMul, implies_true, Nat.reduceEqDiff, reduceIte, Nat.reduceAdd, Nat.reduceBEq, reduceCtorEq, al26, ap22_22, ap39_39, bd26, bs22_1, bs39_1, fa26_0, ix22, ix39, ld3, ld22, ld26, ln39, ms22, sn22, sl22, st26, within_eq, bne_self_eq_false, wng, wmx, hsz, Bool.not_true, List.getElem_cons_zero, ev1, es1, eW, if_pos hw, Int.toNat_natCast, es2, q12.rd 0 rfl, q12.rd 4 rfl, q12.rd 5 rfl, q12.rd 6 rfl]
  have q13 := q12.ntab [.r, .r]
  refine rW_loopQ (σ := Nat × Option Addr × Nat × List Value) q13 [3, 4, 5, 6, 8, 9, 10] (fun x tm => tm 12 = .int .i64 x.1 ∧ tm 11 = .slice x.2.1 x.1 x.2.2.1 ∧ x.1 ≤ k) (fun x L => L.set 0 (.tab (.slice x.2.1 x.1 x.2.2.1) [.r, .r] x.1 x.2.2.2 (rowsV ((rowsR sb db).take x.1)))) (fun x => k - x.1) (0, none, 0, []) ⟨rfl, rfl, Nat.zero_le _⟩ rfl ?_
  rintro ⟨i, av, cv, ys⟩ tm1 H13 ⟨lv1, lv2, lv3, lv4, lv5, lv6, lv7, -⟩ ⟨ki, ko, hi⟩ q14
  simp -implicitDefEqProofs only [kz, kk0, kk1, kk2, kk3, ↓two_true, ↓two_false, mkv, aggAt, Nat.reduceLeDiff, Nat.reduceSub, Nat.reduceMul, implies_true, Nat.reduceEqDiff, reduceIte, Nat.reduceAdd, Nat.reduceBEq, reduceCtorEq, al26, ap22_22, ap39_39, bd26, bs22_1, bs39_1, fa26_0, ix22, ix39, ld3, ld22, ld26, ln39, ms22, sn22, sl22, st26, ev1, es1, eW, if_pos hw, Int.toNat_natCast, es2] at lv1 lv2 lv3 lv4 lv5 lv6 lv7
  simp only [List.set_cons_zero, List.set_cons_succ] at q14
  simp only at ki ko hi
  have wi : IntKind.i64.wrap ((i : Int) + 1) = ((i + 1 : Nat) : Int) := IntWalk.i64_in ((i : Int) + 1) (by omega)
  obtain ⟨b1, o1, cs1, ei1, fr1, fc1⟩ := ixI0 (x := (k : Int)) (q14.int 4 rfl) (by simp)
  simp -implicitDefEqProofs only [kz, kk0, kk1, kk2, kk3, ↓two_true, ↓two_false, mkv, aggAt, Nat.reduceLeDiff, Nat.reduceSub, Nat.reduceMul, implies_true, Nat.reduceEqDiff, reduceIte, Nat.reduceAdd, Nat.reduceBEq, reduceCtorEq, al26, ap22_22, ap39_39, bd26, bs22_1, bs39_1, fa26_0, ix22, ix39, ld3, ld22, ld26, ln39, ms22, sn22, sl22, st26, within_eq, bne_self_eq_false, wng, wmx, hsz, Bool.not_true, List.getElem_cons_zero, ev1, es1, eW, if_pos hw, Int.toNat_natCast, es2, ei1, fr1, fc1, lv1, lv2, lv3, lv4, lv5, lv6, lv7, ki, ko, wi, q14.rd 1 rfl, q14.rd 5 rfl, q14.rd 6 rfl, q14.rd 7 rfl]
  refine two_intro (fun u1 => ?_) (fun u1 => ?_)
  ·
    have hi2 : i < k := by have h5 := of_decide_eq_true u1; omega
    have hc : i < (rowsR sb db).length := by omega
    have wln : IntKind.i64.wrap (((rowsR sb db).length : Int) - 1) = (((rowsR sb db).length : Int) - 1) := IntWalk.i64_in _ (by omega)
    have hin : inB (i : Int) 0 (((rowsR sb db).length : Int) - 1) = true := inB_true.2 (by omega)
    try simp -implicitDefEqProofs only [kz, kk0, kk1, kk2, kk3, ↓two_true, ↓two_false, mkv, aggAt, Nat.reduceLeDiff, Nat.reduceSub, Nat.reduceMul, implies_true, Nat.reduceEqDiff, reduceIte, Nat.reduceAdd, Nat.reduceBEq, reduceCtorEq, al26, ap22_22, ap39_39, bd26, bs22_1, bs39_1, fa26_0, ix22, ix39, ld3, ld22, ld26, ln39, ms22, sn22, sl22, st26, within_eq, bne_self_eq_false, wng, wmx, hsz, Bool.not_true, List.getElem_cons_zero, ev1, es1, eW, if_pos hw, Int.toNat_natCast, es2, wln, hin, ei1, fr1, fc1, lv1, lv2, lv3, lv4, lv5, lv6, lv7, ki, ko, wi, q14.rd 1 rfl, q14.rd 5 rfl, q14.rd 6 rfl, q14.rd 7 rfl]
    refine two_intro (fun u2 => ?_) (fun u2 => ?_)
    ·
      exfalso; have h5 := of_decide_eq_true u2; omega
    ·
      obtain ⟨b2, o2, cs2, a4, c4, a5, c5, ei2, fr2, fc2, fc3, q15⟩ := q14.elemA 3 rfl (k := i) hc
      try simp -implicitDefEqProofs only [kz, kk0, kk1, kk2, kk3, ↓two_true, ↓two_false, mkv, aggAt, Nat.reduceLeDiff, Nat.reduceSub, Nat.reduceMul, implies_true, Nat.reduceEqDiff, reduceIte, Nat.reduceAdd, Nat.reduceBEq, reduceCtorEq, al26, ap22_22, ap39_39, bd26, bs22_1, bs39_1, fa26_0, ix22, ix39, ld3, ld22, ld26, ln39, ms22, sn22, sl22, st26, within_eq, bne_self_eq_false, wng, wmx, hsz, Bool.not_true, List.getElem_cons_zero, ev1, es1, eW, if_pos hw, Int.toNat_natCast, es2, wln, hin, ei1, fr1, fc1, ei2, fr2, fc2, fc3, ldA2 fc2 fc3, lv1, lv2, lv3, lv4, lv5, lv6, lv7, ki, ko, wi, q15.rd 3 rfl, q15.rd 7 rfl, q15.rd 8 rfl, q15.rd 9 rfl]
      refine st_cells q15 fun H14 q16 => ?_
      simp -implicitDefEqProofs only [kz, kk0, kk1, kk2, kk3, ↓two_true, ↓two_false, mkv, aggAt, Nat.reduceLeDiff, Nat.reduceSub, Nat.reduceMul, implies_true, Nat.reduceEqDiff, reduceIte, Nat.reduceAdd, Nat.reduceBEq, reduceCtorEq, al26, ap22_22, ap39_39, bd26, bs22_1, bs39_1, fa26_0, ix22, ix39, ld3, ld22, ld26, ln39, ms22, sn22, sl22, st26, within_eq, bne_self_eq_false, wng, wmx, hsz, Bool.not_true, List.getElem_cons_zero, ev1, es1, eW, if_pos hw, Int.toNat_natCast, es2, wln, hin, lv1, lv2, lv3, lv4, lv5, lv6, lv7, ki, ko, wi, q16.rd 0 rfl, q16.rd 4 rfl, q16.rd 8 rfl, q16.rd 9 rfl, q16.rd 10 rfl]
      refine st_app2 q16 3 0 1 2 rfl rfl rfl rfl (by have := (m3 _ (List.getElem_mem hc)).2.1; omega) (by have := (m3 _ (List.getElem_mem hc)).2.2.2.1; omega) (by omega) fun a6 c6 H15 ys2 q17 => ?_
      simp only [List.set_cons_zero, List.set_cons_succ] at q17
      simp -implicitDefEqProofs only [kz, kk0, kk1, kk2, kk3, ↓two_true, ↓two_false, mkv, aggAt, Nat.reduceLeDiff, Nat.reduceSub, Nat.reduceMul, implies_true, Nat.reduceEqDiff, reduceIte, Nat.reduceAdd, Nat.reduceBEq, reduceCtorEq, al26, ap22_22, ap39_39, bd26, bs22_1, bs39_1, fa26_0, ix22, ix39, ld3, ld22, ld26, ln39, ms22, sn22, sl22, st26, within_eq, bne_self_eq_false, wng, wmx, hsz, Bool.not_true, List.getElem_cons_zero, ev1, es1, eW, if_pos hw, Int.toNat_natCast, es2, wln, hin, lv1, lv2, lv3, lv4, lv5, lv6, lv7, ki, ko, wi, q17.rd 0 rfl, q17.rd 4 rfl, q17.rd 8 rfl, q17.rd 9 rfl, q17.rd 10 rfl]
      -- back loop1
      refine ⟨(i + 1, a6, c6, ys2), (by simp only; omega), ⟨rfl, rfl, rfl, rfl, rfl, rfl, rfl, trivial⟩, ⟨by first | rfl | simp, by first | rfl | simp, hi2⟩, ?_⟩
      simp only [List.set_cons_zero, List.set_cons_succ, List.take_succ_eq_append_getElem hc]
      exact q17.pick [3, 4, 5, 6, 7, 8, 9, 10] _ rfl (by decide)
  ·
    have hil : k = i := Nat.le_antisymm (by have h5 := of_decide_eq_false u1; omega) hi
    subst hil
    try simp -implicitDefEqProofs only [kz, kk0, kk1, kk2, kk3, ↓two_true, ↓two_false, mkv, aggAt, Nat.reduceLeDiff, Nat.reduceSub, Nat.reduceMul, implies_true, Nat.reduceEqDiff, reduceIte, Nat.reduceAdd, Nat.reduceBEq, reduceCtorEq, al26, ap22_22, ap39_39, bd26, bs22_1, bs39_1, fa26_0, ix22, ix39, ld3, ld22, ld26, ln39, ms22, sn22, sl22, st26, within_eq, bne_self_eq_false, wng, wmx, hsz, Bool.not_true, List.getElem_cons_zero, ev1, es1, eW, if_pos hw, Int.toNat_natCast, es2, ei1, fr1, fc1, lv1, lv2, lv3, lv4, lv5, lv6, lv7, ki, ko, wi, q14.rd 1 rfl, q14.rd 5 rfl, q14.rd 6 rfl, q14.rd 7 rfl]
    refine (joined_ok (q14.rowsT 0 rfl).1 (hv1.ext q14.ext) (by simp; omega) (by simp; omega) (by omega) ).mono ?_
    rintro _ H16 ⟨p1, p2, rfl, g1⟩
    obtain ⟨R1, hR1⟩ : ∃ R, joinR ((rowsR sb db).take k) sb.tail = R := ⟨_, rfl⟩
    rw [hR1] at g1 ⊢
    have q18 := q14.join g1
    simp only [List.map_cons, List.map_nil, List.cons_append, List.nil_append] at q18
    obtain ⟨a7, c7, rfl⟩ := (q18.own 0 rfl).isSlice
    obtain ⟨a8, c8, rfl⟩ := (q18.own 1 rfl).isSlice
    simp -implicitDefEqProofs only [kz, kk0, kk1, kk2, kk3, ↓two_true, ↓two_false, mkv, aggAt, Nat.reduceLeDiff, Nat.reduceSub, Nat.reduceMul, implies_true, Nat.reduceEqDiff, reduceIte, Nat.reduceAdd, Nat.reduceBEq, reduceCtorEq, al26, ap22_22, ap39_39, bd26, bs22_1, bs39_1, fa26_0, ix22, ix39, ld3, ld22, ld26, ln39, ms22, sn22, sl22, st26, within_eq, bne_self_eq_false, wng, wmx, hsz, Bool.not_true, List.getElem_cons_zero, ev1, es1, eW, if_pos hw, Int.toNat_natCast, es2, lv1, lv2, lv3, lv4, lv5, lv6, lv7, ki, ko, wi, q18.rd 3 rfl, q18.rd 7 rfl, q18.rd 8 rfl, q18.rd 9 rfl]
    refine st_set q18 7 rfl fun H17 q19 => ?_
    simp only [List.set_cons_zero, List.set_cons_succ] at q19
    simp -implicitDefEqProofs only [kz, kk0, kk1, kk2, kk3, ↓two_true, ↓two_false, mkv, aggAt, Nat.reduceLeDiff, Nat.reduceSub, Nat.reduceMul, implies_true, Nat.reduceEqDiff, reduceIte, Nat.reduceAdd, Nat.reduceBEq, reduceCtorEq, al26, ap22_22, ap39_39, bd26, bs22_1, bs39_1, fa26_0, ix22, ix39, ld3, ld22, ld26, ln39, ms22, sn22, sl22, st26, within_eq, bne_self_eq_false, wng, wmx, hsz, Bool.not_true, List.getElem_cons_zero, ev1, es1, eW, if_pos hw, Int.toNat_natCast, es2, lv1, lv2, lv3, lv4, lv5, lv6, lv7, ki, ko, wi, q19.rd 3 rfl, q19.rd 7 rfl, q19.rd 8 rfl, q19.rd 9 rfl]
    -- end1
    exact q19.ans 0 1 (by decide) rfl rfl rfl

theorem DrawScan_ok {H : AH} {v : Value} (hv : BRv H v) : CallsA Try.prog 22 #[v] H fun r H' => ∃ (s : Int) (psa qsa : Value) (sa da : List Int), r = .tuple #[.int .i64 s, .agg #[psa, qsa]] ∧ LD none H H' [.row psa sa, .row qsa da] ∧ sa.length ≤ 1048576 ∧ da.length ≤ 1048576 := by
  obtain ⟨a0, n0, c0, rfl, hn0, hb⟩ := hv
  have hv : BRv H (.slice a0 n0 c0) := ⟨a0, n0, c0, rfl, hn0, hb⟩
  have q := (LX.nil (H := H))
  refine w22 ?_
  unfold k22
  simp -implicitDefEqProofs only [kz, kk0, kk1, kk2, kk3, ↓two_true, ↓two_false, mkv, aggAt, Nat.reduceLeDiff, Nat.reduceSub, Nat.reduceMul, implies_true, Nat.reduceEqDiff, reduceIte, Nat.reduceAdd, Nat.reduceBEq, reduceCtorEq, al26, ld26, st26]
  refine st_box q fun H1 q1 => ?_
  simp -implicitDefEqProofs only [kz, kk0, kk1, kk2, kk3, ↓two_true, ↓two_false, mkv, aggAt, Nat.reduceLeDiff, Nat.reduceSub, Nat.reduceMul, implies_true, Nat.reduceEqDiff, reduceIte, Nat.reduceAdd, Nat.reduceBEq, reduceCtorEq, al26, ld26, st26, q1.rd 0 rfl]
  refine (l1New_ok (BRv.ext hv q1.ext)).mono ?_
  rintro _ H2 ⟨cb, rfl, hc1, hcb1, he1⟩
  have q2 := q1.cursor he1 hc1 hcb1
  have hcb0 := Nat.le_trans q1.len hcb1
  simp -implicitDefEqProofs only [kz, kk0, kk1, kk2, kk3, ↓two_true, ↓two_false, mkv, aggAt, Nat.reduceLeDiff, Nat.reduceSub, Nat.reduceMul, implies_true, Nat.reduceEqDiff, reduceIte, Nat.reduceAdd, Nat.reduceBEq, reduceCtorEq, al26, ld26, st26, q2.rd 0 rfl]
  refine (l1DrawSign_ok q2.cur).mono ?_
  rintro _ H3 ⟨⟨s1, rfl⟩, hf1⟩
  have q3 := q2.call hf1
  simp -implicitDefEqProofs only [kz, kk0, kk1, kk2, kk3, ↓two_true, ↓two_false, mkv, aggAt, Nat.reduceLeDiff, Nat.reduceSub, Nat.reduceMul, implies_true, Nat.reduceEqDiff, reduceIte, Nat.reduceAdd, Nat.reduceBEq, reduceCtorEq, al26, ld26, st26, q3.rd 0 rfl]
  refine (l3Draw_ok q3.cur).mono ?_
  rintro _ H4 ⟨⟨p1, p2, xs1, xd1, rfl, d1, m1, m2⟩, hf2⟩
  have q4 := q3.da d1 hf2
  obtain ⟨a1, c1, rfl⟩ := (q4.own 0 rfl).isSlice
  obtain ⟨a2, c2, rfl⟩ := (q4.own 1 rfl).isSlice
  simp -implicitDefEqProofs only [kz, kk0, kk1, kk2, kk3, ↓two_true, ↓two_false, mkv, aggAt, Nat.reduceLeDiff, Nat.reduceSub, Nat.reduceMul, implies_true, Nat.reduceEqDiff, reduceIte, Nat.reduceAdd, Nat.reduceBEq, reduceCtorEq, al26, ld26, st26, q4.rd 2 rfl]
  refine st_set q4 2 rfl fun H5 q5 => ?_
  simp only [List.set_cons_zero, List.set_cons_succ] at q5
  simp -implicitDefEqProofs only [kz, kk0, kk1, kk2, kk3, ↓two_true, ↓two_false, mkv, aggAt, Nat.reduceLeDiff, Nat.reduceSub, Nat.reduceMul, implies_true, Nat.reduceEqDiff, reduceIte, Nat.reduceAdd, Nat.reduceBEq, reduceCtorEq, al26, ld26, st26, q5.rd 2 rfl]
  -- end1
  exact ⟨s1, _, _, xs1, xd1, rfl, (q5.out hcb0).give [0, 1] (by decide) _ rfl, (by first | omega | (simp; omega) | simp), (by first | omega | (simp; omega) | simp)⟩

theorem firstC_zeroS {l : List Int} (h : firstC l = 0) : ∀ c ∈ l, c = 0 := by
  induction l with
  | nil => intro c hc; simp at hc
  | cons x l ih =>
    rw [firstC_cons] at h
    split at h
    · rename_i hx
      intro c hc
      rcases List.mem_cons.1 hc with e | e
      · rw [e]; exact hx
      · exact ih h c e
    · rename_i hx; exact absurd h hx
theorem scanR_err {s : Int} {sa da : List Int} {R : (List Int × List Int) × Int} (hR : scanR s sa da = R) (h : R.2 ≠ 0) : R.1.2 = [] := by
  unfold scanR at hR
  repeat' split at hR
  all_goals subst hR
  all_goals first | rfl | exact absurd rfl h
theorem scanR_okS {s : Int} {sa da : List Int} {R : (List Int × List Int) × Int} (hR : scanR s sa da = R) (h : R.2 = 0) : arrOk sa da = true ∧ sg2 s = true ∧ ((sa.length = 0 ∨ (rowsR sa da).length = 0) → R = ((sa, da), 0)) ∧ (sa.length ≠ 0 → (rowsR sa da).length ≠ 0 → (∀ j, j < (rowsR sa da).length → (redL s ((rowsR sa da).take (j + 1))).2 = 0) ∧ R = ((((rowsR sa da).length : Int) :: sa.tail, flatD (scanL s (rowsR sa da) (rowsR sa da).length)), 0)) := by
  unfold scanR at hR
  split at hR
  · rename_i h1
    simp only [Bool.and_eq_true] at h1
    refine ⟨h1.1, h1.2, ?_⟩
    split at hR
    · rename_i h2; exact ⟨fun _ => hR.symm, fun h3 => absurd h2 h3⟩
    · rename_i h2
      split at hR
      · rename_i h3; exact ⟨fun _ => hR.symm, fun _ h4 => absurd h3 h4⟩
      · rename_i h3
        split at hR
        · rename_i h4
          exact ⟨fun h5 => (h5.elim (fun h => absurd h h2) fun h => absurd h h3), fun _ _ => ⟨fun j hj => firstC_zeroS h4 _ (List.mem_map.2 ⟨j, List.mem_range.2 hj, rfl⟩), hR.symm⟩⟩
        · rename_i h4; subst hR; exact absurd h h4
  · subst hR; exact absurd h (show ¬ ((1 : Int) = 0) by decide)
theorem flat_at {rs : List (List Int × List Int)} {m : Nat} (h : ∀ r ∈ rs, r.2.length = m) : ∀ (i : Nat) (hi : i < rs.length), ((flatD rs).drop (i * m)).take m = rs[i].2 := by
  induction rs with
  | nil => intro i hi; simp at hi
  | cons r rs ih =>
    intro i hi
    have hr := h r (by simp)
    have e : flatD (r :: rs) = r.2 ++ flatD rs := by simp [flatD]
    rw [e]
    cases i with
    | zero => rw [Nat.zero_mul, List.drop_zero, ← hr, List.take_left']; rfl; rfl
    | succ i =>
      have e2 : (r.2 ++ flatD rs).drop ((i + 1) * m) = (flatD rs).drop (i * m) := by
        rw [List.drop_append, List.drop_eq_nil_of_le (by rw [hr, Nat.add_mul, Nat.one_mul]; omega), List.nil_append, hr, Nat.add_mul, Nat.one_mul, Nat.add_sub_cancel]
      rw [e2]
      exact ih (fun r hr => h r (by simp [hr])) i (by simpa using hi)
theorem rows_flatS {rs : List (List Int × List Int)} {k m : Nat} {tl : List Int} (hk : rs.length = k) (hm : sizeI tl = m) (h : ∀ r ∈ rs, r.1 = tl ∧ r.2.length = m) : rowsR ((k : Int) :: tl) (flatD rs) = rs := by
  show (List.range ((k : Int)).toNat).map (fun i => (tl, ((flatD rs).drop (i * (sizeI tl).toNat)).take (sizeI tl).toNat)) = rs
  rw [hm, Int.toNat_natCast, Int.toNat_natCast]
  refine List.ext_getElem (by simp [hk]) fun i h1 h2 => ?_
  simp only [List.getElem_map, List.getElem_range]
  rw [flat_at (fun r hr => (h r hr).2) i h2, ← (h _ (List.getElem_mem h2)).1]
theorem redL_shape {s : Int} {sa da : List Int} {k : Nat} (v1 : arrOk sa da = true) (v3 : sa.length ≠ 0) (h1 : 1 ≤ k) (h2 : k ≤ (rowsR sa da).length) (hz : (redL s ((rowsR sa da).take k)).2 = 0) : ∃ m : Nat, sizeI sa.tail = m ∧ m ≤ 300 ∧ (∀ r ∈ rowsR sa da, r.1 = sa.tail ∧ r.2.length = m) ∧ (redL s ((rowsR sa da).take k)).1.1 = sa.tail ∧ (redL s ((rowsR sa da).take k)).1.2.length = m := by
  obtain ⟨m1, m2, m3⟩ := rowsR_lim v1 v3
  have hm : (0 : Nat) < (rowsR sa da).length := by omega
  obtain ⟨_, _, e3, e4, _⟩ := m3 _ (List.getElem_mem hm)
  have hall : ∀ r ∈ rowsR sa da, r.1 = sa.tail ∧ r.2.length = ((rowsR sa da)[0]'hm).2.length ∧ r.2.all numOk = true := fun r hr => by
    obtain ⟨g1, _, g3, _, g5⟩ := m3 r hr
    exact ⟨g1, by omega, g5⟩
  have := redL_rows (s := s) (rs := (rowsR sa da).take k) (sh := sa.tail) (m := ((rowsR sa da)[0]'hm).2.length) (fun r hr => hall r (List.mem_of_mem_take hr)) e3.symm (by simp; omega) hz
  exact ⟨_, e3.symm, e4, fun r hr => ⟨(hall r hr).1, (hall r hr).2.1⟩, this.1, this.2.1⟩

end Go.Proofs.Ytmlimgdpcoloiaa.AM
