/- What the functions answer, part 4. -/
import Derived.Test.YtmlimgdpcoloiaaP3
set_option linter.unusedVariables false
set_option linter.unusedSimpArgs false
set_option linter.defProp false
set_option maxRecDepth 100000
/- What the functions answer, part 4. -/
namespace Go.Proofs.Ytmlimgdpcoloiaa.AM
open Go Go.Proofs.Ytmlimgdpcoloiaa Go.Proofs
theorem implScan_ok {H : AH} {s : Int} {pa qa : Value} {sa da : List Int} (a : AR H pa qa sa da) : CallsA Try.prog 15 #[.int .i64 s, .agg #[pa, qa]] H fun r H' => Ans1 H H' r (scanR s sa da) := by
  have al := a.l1
  have bl := a.l2
  obtain ⟨za, zc, zb, zd, rfl, rfl⟩ := a.o1
  have q := (LX.nil (H := H))
  refine w15 ?_
  unfold k15
  simp -implicitDefEqProofs only [kk0, kk1, kk2, kk3, rW_block, ↓two_true, ↓two_false, rW_cond, rO_guard, mkv, aggAt, Nat.reduceLeDiff, Nat.reduceSub, Nat.reduceMul, cond_true, cond_false, Option.bind_some, List.length_append, List.length_cons, List.length_nil, List.append_assoc, List.cons_append, List.nil_append, List.set_cons_zero, List.set_cons_succ, List.size_toArray, List.all_cons, List.all_nil, List.drop_zero, List.drop_succ_cons, List.take_succ_cons, List.take_zero, List.mem_cons, Prod.mk.injEq, List.not_mem_nil, implies_true, List.getElem?_toArray, List.getElem?_cons_zero, List.getElem?_cons_succ, List.getElem?_nil, Option.getD_some, Option.getD_none, Nat.reduceEqDiff, reduceIte, Nat.reduceAdd, List.map_toArray, List.map_cons, List.map_nil, Bool.false_eq_true, Nat.reduceBEq, Option.map_some, Option.map_none, reduceCtorEq, al26, ap39_39, bd26, bs39_1, fa26_0, ld22, ld26, ln39, sn22, sl22, sn39, sl39, st26, twoSign_eq]
  refine st_box q fun H1 q1 => ?_
  simp -implicitDefEqProofs only [kk0, kk1, kk2, kk3, rW_block, ↓two_true, ↓two_false, rW_cond, rO_guard, mkv, aggAt, Nat.reduceLeDiff, Nat.reduceSub, Nat.reduceMul, cond_true, cond_false, Option.bind_some, List.length_append, List.length_cons, List.length_nil, List.append_assoc, List.cons_append, List.nil_append, List.set_cons_zero, List.set_cons_succ, List.size_toArray, List.all_cons, List.all_nil, List.drop_zero, List.drop_succ_cons, List.take_succ_cons, List.take_zero, List.mem_cons, Prod.mk.injEq, List.not_mem_nil, implies_true, List.getElem?_toArray, List.getElem?_cons_zero, List.getElem?_cons_succ, List.getElem?_nil, Option.getD_some, Option.getD_none, Nat.reduceEqDiff, reduceIte, Nat.reduceAdd, List.map_toArray, List.map_cons, List.map_nil, Bool.false_eq_true, Nat.reduceBEq, Option.map_some, Option.map_none, reduceCtorEq, al26, ap39_39, bd26, bs39_1, fa26_0, ld22, ld26, ln39, sn22, sl22, sn39, sl39, st26, twoSign_eq, q1.rd 0 rfl]
  refine st_box q1 fun H2 q2 => ?_
  simp -implicitDefEqProofs only [kk0, kk1, kk2, kk3, rW_block, ↓two_true, ↓two_false, rW_cond, rO_guard, mkv, aggAt, Nat.reduceLeDiff, Nat.reduceSub, Nat.reduceMul, cond_true, cond_false, Option.bind_some, List.length_append, List.length_cons, List.length_nil, List.append_assoc, List.cons_append, List.nil_append, List.set_cons_zero, List.set_cons_succ, List.size_toArray, List.all_cons, List.all_nil, List.drop_zero, List.drop_succ_cons, List.take_succ_cons, List.take_zero, List.mem_cons, Prod.mk.injEq, List.not_mem_nil, implies_true, List.getElem?_toArray, List.getElem?_cons_zero, List.getElem?_cons_succ, List.getElem?_nil, Option.getD_some, Option.getD_none, Nat.reduceEqDiff, reduceIte, Nat.reduceAdd, List.map_toArray, List.map_cons, List.map_nil, Bool.false_eq_true, Nat.reduceBEq, Option.map_some, Option.map_none, reduceCtorEq, al26, ap39_39, bd26, bs39_1, fa26_0, ld22, ld26, ln39, sn22, sl22, sn39, sl39, st26, twoSign_eq, q2.rd 0 rfl, q2.rd 1 rfl]
  refine (implOk_ar (a.ext q2.ext)).mono ?_
  rintro _ H3 ⟨rfl, he1⟩
  have q3 := q2.extd he1
  simp -implicitDefEqProofs only [kk0, kk1, kk2, kk3, rW_block, ↓two_true, ↓two_false, rW_cond, rO_guard, mkv, aggAt, Nat.reduceLeDiff, Nat.reduceSub, Nat.reduceMul, cond_true, cond_false, Option.bind_some, List.length_append, List.length_cons, List.length_nil, List.append_assoc, List.cons_append, List.nil_append, List.set_cons_zero, List.set_cons_succ, List.size_toArray, List.all_cons, List.all_nil, List.drop_zero, List.drop_succ_cons, List.take_succ_cons, List.take_zero, List.mem_cons, Prod.mk.injEq, List.not_mem_nil, implies_true, List.getElem?_toArray, List.getElem?_cons_zero, List.getElem?_cons_succ, List.getElem?_nil, Option.getD_some, Option.getD_none, Nat.reduceEqDiff, reduceIte, Nat.reduceAdd, List.map_toArray, List.map_cons, List.map_nil, Bool.false_eq_true, Nat.reduceBEq, Option.map_some, Option.map_none, reduceCtorEq, al26, ap39_39, bd26, bs39_1, fa26_0, ld22, ld26, ln39, sn22, sl22, sn39, sl39, st26, twoSign_eq, q3.rd 0 rfl, q3.rd 1 rfl]
  refine two_intro (fun u1 => ?_) (fun u1 => ?_)
  ·
    try simp -implicitDefEqProofs only [kk0, kk1, kk2, kk3, rW_block, ↓two_true, ↓two_false, rW_cond, rO_guard, mkv, aggAt, Nat.reduceLeDiff, Nat.reduceSub, Nat.reduceMul, cond_true, cond_false, Option.bind_some, List.length_append, List.length_cons, List.length_nil, List.append_assoc, List.cons_append, List.nil_append, List.set_cons_zero, List.set_cons_succ, List.size_toArray, List.all_cons, List.all_nil, List.drop_zero, List.drop_succ_cons, List.take_succ_cons, List.take_zero, List.mem_cons, Prod.mk.injEq, List.not_mem_nil, implies_true, List.getElem?_toArray, List.getElem?_cons_zero, List.getElem?_cons_succ, List.getElem?_nil, Option.getD_some, Option.getD_none, Nat.reduceEqDiff, reduceIte, Nat.reduceAdd, List.map_toArray, List.map_cons, List.map_nil, Bool.false_eq_true, Nat.reduceBEq, Option.map_some, Option.map_none, reduceCtorEq, al26, ap39_39, bd26, bs39_1, fa26_0, ld22, ld26, ln39, sn22, sl22, sn39, sl39, st26, twoSign_eq, q3.rd 0 rfl, q3.rd 1 rfl]
    refine st_set q3 0 rfl fun H4 q4 => ?_
    simp only [List.set_cons_zero, List.set_cons_succ] at q4
    simp -implicitDefEqProofs only [kk0, kk1, kk2, kk3, rW_block, ↓two_true, ↓two_false, rW_cond, rO_guard, mkv, aggAt, Nat.reduceLeDiff, Nat.reduceSub, Nat.reduceMul, cond_true, cond_false, Option.bind_some, List.length_append, List.length_cons, List.length_nil, List.append_assoc, List.cons_append, List.nil_append, List.set_cons_zero, List.set_cons_succ, List.size_toArray, List.all_cons, List.all_nil, List.drop_zero, List.drop_succ_cons, List.take_succ_cons, List.take_zero, List.mem_cons, Prod.mk.injEq, List.not_mem_nil, implies_true, List.getElem?_toArray, List.getElem?_cons_zero, List.getElem?_cons_succ, List.getElem?_nil, Option.getD_some, Option.getD_none, Nat.reduceEqDiff, reduceIte, Nat.reduceAdd, List.map_toArray, List.map_cons, List.map_nil, Bool.false_eq_true, Nat.reduceBEq, Option.map_some, Option.map_none, reduceCtorEq, al26, ap39_39, bd26, bs39_1, fa26_0, ld22, ld26, ln39, sn22, sl22, sn39, sl39, st26, twoSign_eq, q4.rd 0 rfl, q4.rd 1 rfl]
    -- end1
    exact q4.err (by simp [scanR, show arrOk sa da = false by simpa using u1])
  ·
    have v1 : arrOk sa da = true := by simpa using u1
    try simp -implicitDefEqProofs only [kk0, kk1, kk2, kk3, rW_block, ↓two_true, ↓two_false, rW_cond, rO_guard, mkv, aggAt, Nat.reduceLeDiff, Nat.reduceSub, Nat.reduceMul, cond_true, cond_false, Option.bind_some, List.length_append, List.length_cons, List.length_nil, List.append_assoc, List.cons_append, List.nil_append, List.set_cons_zero, List.set_cons_succ, List.size_toArray, List.all_cons, List.all_nil, List.drop_zero, List.drop_succ_cons, List.take_succ_cons, List.take_zero, List.mem_cons, Prod.mk.injEq, List.not_mem_nil, implies_true, List.getElem?_toArray, List.getElem?_cons_zero, List.getElem?_cons_succ, List.getElem?_nil, Option.getD_some, Option.getD_none, Nat.reduceEqDiff, reduceIte, Nat.reduceAdd, List.map_toArray, List.map_cons, List.map_nil, Bool.false_eq_true, Nat.reduceBEq, Option.map_some, Option.map_none, reduceCtorEq, al26, ap39_39, bd26, bs39_1, fa26_0, ld22, ld26, ln39, sn22, sl22, sn39, sl39, st26, twoSign_eq, q3.rd 0 rfl, q3.rd 1 rfl]
    refine two_intro (fun u2 => ?_) (fun u2 => ?_)
    ·
      try simp -implicitDefEqProofs only [kk0, kk1, kk2, kk3, rW_block, ↓two_true, ↓two_false, rW_cond, rO_guard, mkv, aggAt, Nat.reduceLeDiff, Nat.reduceSub, Nat.reduceMul, cond_true, cond_false, Option.bind_some, List.length_append, List.length_cons, List.length_nil, List.append_assoc, List.cons_append, List.nil_append, List.set_cons_zero, List.set_cons_succ, List.size_toArray, List.all_cons, List.all_nil, List.drop_zero, List.drop_succ_cons, List.take_succ_cons, List.take_zero, List.mem_cons, Prod.mk.injEq, List.not_mem_nil, implies_true, List.getElem?_toArray, List.getElem?_cons_zero, List.getElem?_cons_succ, List.getElem?_nil, Option.getD_some, Option.getD_none, Nat.reduceEqDiff, reduceIte, Nat.reduceAdd, List.map_toArray, List.map_cons, List.map_nil, Bool.false_eq_true, Nat.reduceBEq, Option.map_some, Option.map_none, reduceCtorEq, al26, ap39_39, bd26, bs39_1, fa26_0, ld22, ld26, ln39, sn22, sl22, sn39, sl39, st26, twoSign_eq, q3.rd 0 rfl, q3.rd 1 rfl]
      refine st_set q3 0 rfl fun H5 q5 => ?_
      simp only [List.set_cons_zero, List.set_cons_succ] at q5
      simp -implicitDefEqProofs only [kk0, kk1, kk2, kk3, rW_block, ↓two_true, ↓two_false, rW_cond, rO_guard, mkv, aggAt, Nat.reduceLeDiff, Nat.reduceSub, Nat.reduceMul, cond_true, cond_false, Option.bind_some, List.length_append, List.length_cons, List.length_nil, List.append_assoc, List.cons_append, List.nil_append, List.set_cons_zero, List.set_cons_succ, List.size_toArray, List.all_cons, List.all_nil, List.drop_zero, List.drop_succ_cons, List.take_succ_cons, List.take_zero, List.mem_cons, Prod.mk.injEq, List.not_mem_nil, implies_true, List.getElem?_toArray, List.getElem?_cons_zero, List.getElem?_cons_succ, List.getElem?_nil, Option.getD_some, Option.getD_none, Nat.reduceEqDiff, reduceIte, Nat.reduceAdd, List.map_toArray, List.map_cons, List.map_nil, Bool.false_eq_true, Nat.reduceBEq, Option.map_some, Option.map_none, reduceCtorEq, al26, ap39_39, bd26, bs39_1, fa26_0, ld22, ld26, ln39, sn22, sl22, sn39, sl39, st26, twoSign_eq, q5.rd 0 rfl, q5.rd 1 rfl]
      -- end2
      exact q5.err (by simp [scanR, show sg2 s = false by simpa using u2])
    ·
      have v2 : sg2 s = true := by simpa using u2
      try simp -implicitDefEqProofs only [kk0, kk1, kk2, kk3, rW_block, ↓two_true, ↓two_false, rW_cond, rO_guard, mkv, aggAt, Nat.reduceLeDiff, Nat.reduceSub, Nat.reduceMul, cond_true, cond_false, Option.bind_some, List.length_append, List.length_cons, List.length_nil, List.append_assoc, List.cons_append, List.nil_append, List.set_cons_zero, List.set_cons_succ, List.size_toArray, List.all_cons, List.all_nil, List.drop_zero, List.drop_succ_cons, List.take_succ_cons, List.take_zero, List.mem_cons, Prod.mk.injEq, List.not_mem_nil, implies_true, List.getElem?_toArray, List.getElem?_cons_zero, List.getElem?_cons_succ, List.getElem?_nil, Option.getD_some, Option.getD_none, Nat.reduceEqDiff, reduceIte, Nat.reduceAdd, List.map_toArray, List.map_cons, List.map_nil, Bool.false_eq_true, Nat.reduceBEq, Option.map_some, Option.map_none, reduceCtorEq, al26, ap39_39, bd26, bs39_1, fa26_0, ld22, ld26, ln39, sn22, sl22, sn39, sl39, st26, twoSign_eq, q3.rd 0 rfl, q3.rd 1 rfl]
      refine (implRows_ok (a.ext q3.ext)).mono ?_
      rintro rv1 H6 ⟨⟨ys1, nw1, cv1⟩, he2⟩
      have hra : rowsA sa da = rowsR sa da := by unfold rowsA; rw [v1]; rfl
      rw [hra] at nw1 cv1
      have q6 := q3.nrows nw1 cv1 he2
      obtain ⟨a1, c1, rfl, -⟩ := (q6.rowsF 0 rfl).1
      simp -implicitDefEqProofs only [kk0, kk1, kk2, kk3, rW_block, ↓two_true, ↓two_false, rW_cond, rO_guard, mkv, aggAt, Nat.reduceLeDiff, Nat.reduceSub, Nat.reduceMul, cond_true, cond_false, Option.bind_some, List.length_append, List.length_cons, List.length_nil, List.append_assoc, List.cons_append, List.nil_append, List.set_cons_zero, List.set_cons_succ, List.size_toArray, List.all_cons, List.all_nil, List.drop_zero, List.drop_succ_cons, List.take_succ_cons, List.take_zero, List.mem_cons, Prod.mk.injEq, List.not_mem_nil, implies_true, List.getElem?_toArray, List.getElem?_cons_zero, List.getElem?_cons_succ, List.getElem?_nil, Option.getD_some, Option.getD_none, Nat.reduceEqDiff, reduceIte, Nat.reduceAdd, List.map_toArray, List.map_cons, List.map_nil, Bool.false_eq_true, Nat.reduceBEq, Option.map_some, Option.map_none, reduceCtorEq, al26, ap39_39, bd26, bs39_1, fa26_0, ld22, ld26, ln39, sn22, sl22, sn39, sl39, st26, twoSign_eq, q6.rd 1 rfl, q6.rd 2 rfl]
      refine two_intro (fun u3 => ?_) (fun u3 => ?_)
      ·
        have v4 : (rowsR sa da).length = 0 := by simpa using u3
        try simp -implicitDefEqProofs only [kk0, kk1, kk2, kk3, rW_block, ↓two_true, ↓two_false, rW_cond, rO_guard, mkv, aggAt, Nat.reduceLeDiff, Nat.reduceSub, Nat.reduceMul, cond_true, cond_false, Option.bind_some, List.length_append, List.length_cons, List.length_nil, List.append_assoc, List.cons_append, List.nil_append, List.set_cons_zero, List.set_cons_succ, List.size_toArray, List.all_cons, List.all_nil, List.drop_zero, List.drop_succ_cons, List.take_succ_cons, List.take_zero, List.mem_cons, Prod.mk.injEq, List.not_mem_nil, implies_true, List.getElem?_toArray, List.getElem?_cons_zero, List.getElem?_cons_succ, List.getElem?_nil, Option.getD_some, Option.getD_none, Nat.reduceEqDiff, reduceIte, Nat.reduceAdd, List.map_toArray, List.map_cons, List.map_nil, Bool.false_eq_true, Nat.reduceBEq, Option.map_some, Option.map_none, reduceCtorEq, al26, ap39_39, bd26, bs39_1, fa26_0, ld22, ld26, ln39, sn22, sl22, sn39, sl39, st26, twoSign_eq, q6.rd 1 rfl, q6.rd 2 rfl]
        refine (copyA_ok (a.ext q6.ext)).mono ?_
        rintro _ H7 ⟨p1, p2, rfl, g1⟩
        have q7 := q6.join g1
        simp only [List.map_cons, List.map_nil, List.cons_append, List.nil_append] at q7
        obtain ⟨a2, c2, rfl⟩ := (q7.own 0 rfl).isSlice
        obtain ⟨a3, c3, rfl⟩ := (q7.own 1 rfl).isSlice
        simp -implicitDefEqProofs only [kk0, kk1, kk2, kk3, rW_block, ↓two_true, ↓two_false, rW_cond, rO_guard, mkv, aggAt, Nat.reduceLeDiff, Nat.reduceSub, Nat.reduceMul, cond_true, cond_false, Option.bind_some, List.length_append, List.length_cons, List.length_nil, List.append_assoc, List.cons_append, List.nil_append, List.set_cons_zero, List.set_cons_succ, List.size_toArray, List.all_cons, List.all_nil, List.drop_zero, List.drop_succ_cons, List.take_succ_cons, List.take_zero, List.mem_cons, Prod.mk.injEq, List.not_mem_nil, implies_true, List.getElem?_toArray, List.getElem?_cons_zero, List.getElem?_cons_succ, List.getElem?_nil, Option.getD_some, Option.getD_none, Nat.reduceEqDiff, reduceIte, Nat.reduceAdd, List.map_toArray, List.map_cons, List.map_nil, Bool.false_eq_true, Nat.reduceBEq, Option.map_some, Option.map_none, reduceCtorEq, al26, ap39_39, bd26, bs39_1, fa26_0, ld22, ld26, ln39, sn22, sl22, sn39, sl39, st26, twoSign_eq, q7.rd 3 rfl, q7.rd 4 rfl]
        refine st_set q7 3 rfl fun H8 q8 => ?_
        simp only [List.set_cons_zero, List.set_cons_succ] at q8
        simp -implicitDefEqProofs only [kk0, kk1, kk2, kk3, rW_block, ↓two_true, ↓two_false, rW_cond, rO_guard, mkv, aggAt, Nat.reduceLeDiff, Nat.reduceSub, Nat.reduceMul, cond_true, cond_false, Option.bind_some, List.length_append, List.length_cons, List.length_nil, List.append_assoc, List.cons_append, List.nil_append, List.set_cons_zero, List.set_cons_succ, List.size_toArray, List.all_cons, List.all_nil, List.drop_zero, List.drop_succ_cons, List.take_succ_cons, List.take_zero, List.mem_cons, Prod.mk.injEq, List.not_mem_nil, implies_true, List.getElem?_toArray, List.getElem?_cons_zero, List.getElem?_cons_succ, List.getElem?_nil, Option.getD_some, Option.getD_none, Nat.reduceEqDiff, reduceIte, Nat.reduceAdd, List.map_toArray, List.map_cons, List.map_nil, Bool.false_eq_true, Nat.reduceBEq, Option.map_some, Option.map_none, reduceCtorEq, al26, ap39_39, bd26, bs39_1, fa26_0, ld22, ld26, ln39, sn22, sl22, sn39, sl39, st26, twoSign_eq, q8.rd 3 rfl, q8.rd 4 rfl]
        -- end3
        exact q8.ans 0 1 (by decide) rfl rfl (by unfold scanR; rw [v1, v2, if_pos (by rfl), if_pos v4]; exact ite_self _)
      ·
        have v4 : (rowsR sa da).length ≠ 0 := by simpa using u3
        have v3 : sa.length ≠ 0 := by
          intro h
          rw [List.length_eq_zero_iff.1 h] at v4
          simp [rowsR] at v4
        obtain ⟨m1, m2, m3⟩ := rowsR_lim v1 v3
        have hsl3 : sa.length ≤ 3 := (sizeI_ok (by have := (arrOk_size v1).1; omega)).1
        have htl : sa.tail.length ≤ 3 := by simp; omega
        try simp -implicitDefEqProofs only [kk0, kk1, kk2, kk3, rW_block, ↓two_true, ↓two_false, rW_cond, rO_guard, mkv, aggAt, Nat.reduceLeDiff, Nat.reduceSub, Nat.reduceMul, cond_true, cond_false, Option.bind_some, List.length_append, List.length_cons, List.length_nil, List.append_assoc, List.cons_append, List.nil_append, List.set_cons_zero, List.set_cons_succ, List.size_toArray, List.all_cons, List.all_nil, List.drop_zero, List.drop_succ_cons, List.take_succ_cons, List.take_zero, List.mem_cons, Prod.mk.injEq, List.not_mem_nil, implies_true, List.getElem?_toArray, List.getElem?_cons_zero, List.getElem?_cons_succ, List.getElem?_nil, Option.getD_some, Option.getD_none, Nat.reduceEqDiff, reduceIte, Nat.reduceAdd, List.map_toArray, List.map_cons, List.map_nil, Bool.false_eq_true, Nat.reduceBEq, Option.map_some, Option.map_none, reduceCtorEq, al26, ap39_39, bd26, bs39_1, fa26_0, ld22, ld26, ln39, sn22, sl22, sn39, sl39, st26, twoSign_eq, q6.rd 1 rfl, q6.rd 2 rfl]
        have q9 := q6.ntab [.r, .r]
        refine rW_loopQ (σ := Nat × Option Addr × Nat × List Value) q9 [0, 3, 4, 6, 28] (fun x tm => tm 29 = .int .i64 x.1 ∧ tm 7 = .slice x.2.1 x.1 x.2.2.1 ∧ x.1 ≤ (rowsR sa da).length ∧ ∀ j, j < x.1 → (redL s ((rowsR sa da).take (j + 1))).2 = 0) (fun x L => L.set 0 (.tab (.slice x.2.1 x.1 x.2.2.1) [.r, .r] x.1 x.2.2.2 (rowsV (scanL s (rowsR sa da) x.1)))) (fun x => (rowsR sa da).length - x.1) (0, none, 0, []) ⟨rfl, rfl, Nat.zero_le _, fun j hj => by simp at hj⟩ rfl ?_
        rintro ⟨i, av, cv, ys⟩ tm1 H9 ⟨h1, h2, h3, h4, h5, -⟩ ⟨ki, ko, hi, hz⟩ q10
        simp -implicitDefEqProofs only [kk0, kk1, kk2, kk3, rW_block, ↓two_true, ↓two_false, rW_cond, rO_guard, mkv, aggAt, Nat.reduceLeDiff, Nat.reduceSub, Nat.reduceMul, cond_true, cond_false, Option.bind_some, List.length_append, List.length_cons, List.length_nil, List.append_assoc, List.cons_append, List.nil_append, List.set_cons_zero, List.set_cons_succ, List.size_toArray, List.all_cons, List.all_nil, List.drop_zero, List.drop_succ_cons, List.take_succ_cons, List.take_zero, List.mem_cons, Prod.mk.injEq, List.not_mem_nil, implies_true, List.getElem?_toArray, List.getElem?_cons_zero, List.getElem?_cons_succ, List.getElem?_nil, Option.getD_some, Option.getD_none, Nat.reduceEqDiff, reduceIte, Nat.reduceAdd, List.map_toArray, List.map_cons, List.map_nil, Bool.false_eq_true, Nat.reduceBEq, Option.map_some, Option.map_none, reduceCtorEq, al26, ap39_39, bd26, bs39_1, fa26_0, ld22, ld26, ln39, sn22, sl22, sn39, sl39, st26] at h1 h2 h3 h4 h5
        simp only [List.set_cons_zero, List.set_cons_succ] at q10
        simp only at ki ko hi hz
        have wi : IntKind.i64.wrap ((i : Int) + 1) = ((i + 1 : Nat) : Int) := IntWalk.i64_in ((i : Int) + 1) (by omega)
        simp -implicitDefEqProofs only [kk0, kk1, kk2, kk3, rW_block, ↓two_true, ↓two_false, rW_cond, rO_guard, mkv, aggAt, Nat.reduceLeDiff, Nat.reduceSub, Nat.reduceMul, cond_true, cond_false, Option.bind_some, List.length_append, List.length_cons, List.length_nil, List.append_assoc, List.cons_append, List.nil_append, List.set_cons_zero, List.set_cons_succ, List.size_toArray, List.all_cons, List.all_nil, List.drop_zero, List.drop_succ_cons, List.take_succ_cons, List.take_zero, List.mem_cons, Prod.mk.injEq, List.not_mem_nil, implies_true, List.getElem?_toArray, List.getElem?_cons_zero, List.getElem?_cons_succ, List.getElem?_nil, Option.getD_some, Option.getD_none, Nat.reduceEqDiff, reduceIte, Nat.reduceAdd, List.map_toArray, List.map_cons, List.map_nil, Bool.false_eq_true, Nat.reduceBEq, Option.map_some, Option.map_none, reduceCtorEq, al26, ap39_39, bd26, bs39_1, fa26_0, ld22, ld26, ln39, sn22, sl22, sn39, sl39, st26, twoSign_eq, h1, h2, h3, h4, h5, ki, ko, wi, q10.rd 2 rfl, q10.rd 3 rfl]
        refine two_intro (fun u4 => ?_) (fun u4 => ?_)
        ·
          have hc : i < (rowsR sa da).length := by simpa using u4
          obtain ⟨a4, c4, ev1, hv1⟩ := RowsA.tk (k := i + 1) (q10.rowsF 1 rfl).1 hc (by omega)
          obtain ⟨a5, c5, ev2, hv2⟩ := IntRow.tl a.os (by omega)
          try simp -implicitDefEqProofs only [kk0, kk1, kk2, kk3, rW_block, ↓two_true, ↓two_false, rW_cond, rO_guard, mkv, aggAt, Nat.reduceLeDiff, Nat.reduceSub, Nat.reduceMul, cond_true, cond_false, Option.bind_some, List.length_append, List.length_cons, List.length_nil, List.append_assoc, List.cons_append, List.nil_append, List.set_cons_zero, List.set_cons_succ, List.size_toArray, List.all_cons, List.all_nil, List.drop_zero, List.drop_succ_cons, List.take_succ_cons, List.take_zero, List.mem_cons, Prod.mk.injEq, List.not_mem_nil, implies_true, List.getElem?_toArray, List.getElem?_cons_zero, List.getElem?_cons_succ, List.getElem?_nil, Option.getD_some, Option.getD_none, Nat.reduceEqDiff, reduceIte, Nat.reduceAdd, List.map_toArray, List.map_cons, List.map_nil, Bool.false_eq_true, Nat.reduceBEq, Option.map_some, Option.map_none, reduceCtorEq, al26, ap39_39, bd26, bs39_1, fa26_0, ld22, ld26, ln39, sn22, sl22, sn39, sl39, st26, twoSign_eq, ev1, ev2, h1, h2, h3, h4, h5, ki, ko, wi, q10.rd 2 rfl, q10.rd 3 rfl]
          refine (implReduced_ok (s := s) hv1 (hv2.ext q10.ext) (by rw [List.length_take]; omega) (by omega) (fun r hr => ⟨by have := (m3 r (List.mem_of_mem_take hr)).2.1; omega, by have := (m3 r (List.mem_of_mem_take hr)).2.2.2.1; omega⟩) (fun h => absurd h (by rw [List.length_take]; omega)) ).mono ?_
          rintro _ H10 ⟨p3, p4, rfl, g2⟩
          obtain ⟨R1, hR1⟩ : ∃ R, redR s ((rowsR sa da).take (i + 1)) sa.tail = R := ⟨_, rfl⟩
          rw [hR1] at g2 ⊢
          have q11 := q10.join g2
          simp only [List.map_cons, List.map_nil, List.cons_append, List.nil_append] at q11
          obtain ⟨a6, c6, rfl⟩ := (q11.own 0 rfl).isSlice
          obtain ⟨a7, c7, rfl⟩ := (q11.own 1 rfl).isSlice
          have hred : redL s ((rowsR sa da).take (i + 1)) = R1 := by rw [← hR1]; unfold redR; rw [if_neg (by rw [List.length_take]; omega)]
          simp -implicitDefEqProofs only [kk0, kk1, kk2, kk3, rW_block, ↓two_true, ↓two_false, rW_cond, rO_guard, mkv, aggAt, Nat.reduceLeDiff, Nat.reduceSub, Nat.reduceMul, cond_true, cond_false, Option.bind_some, List.length_append, List.length_cons, List.length_nil, List.append_assoc, List.cons_append, List.nil_append, List.set_cons_zero, List.set_cons_succ, List.size_toArray, List.all_cons, List.all_nil, List.drop_zero, List.drop_succ_cons, List.take_succ_cons, List.take_zero, List.mem_cons, Prod.mk.injEq, List.not_mem_nil, implies_true, List.getElem?_toArray, List.getElem?_cons_zero, List.getElem?_cons_succ, List.getElem?_nil, Option.getD_some, Option.getD_none, Nat.reduceEqDiff, reduceIte, Nat.reduceAdd, List.map_toArray, List.map_cons, List.map_nil, Bool.false_eq_true, Nat.reduceBEq, Option.map_some, Option.map_none, reduceCtorEq, al26, ap39_39, bd26, bs39_1, fa26_0, ld22, ld26, ln39, sn22, sl22, sn39, sl39, st26, twoSign_eq, ev1, ev2, h1, h2, h3, h4, h5, ki, ko, wi, q11.rd 4 rfl, q11.rd 5 rfl, q10.rd 2 rfl, q10.rd 3 rfl]
          refine st_box q11 fun H11 q12 => ?_
          simp -implicitDefEqProofs only [kk0, kk1, kk2, kk3, rW_block, ↓two_true, ↓two_false, rW_cond, rO_guard, mkv, aggAt, Nat.reduceLeDiff, Nat.reduceSub, Nat.reduceMul, cond_true, cond_false, Option.bind_some, List.length_append, List.length_cons, List.length_nil, List.append_assoc, List.cons_append, List.nil_append, List.set_cons_zero, List.set_cons_succ, List.size_toArray, List.all_cons, List.all_nil, List.drop_zero, List.drop_succ_cons, List.take_succ_cons, List.take_zero, List.mem_cons, Prod.mk.injEq, List.not_mem_nil, implies_true, List.getElem?_toArray, List.getElem?_cons_zero, List.getElem?_cons_succ, List.getElem?_nil, Option.getD_some, Option.getD_none, Nat.reduceEqDiff, reduceIte, Nat.reduceAdd, List.map_toArray, List.map_cons, List.map_nil, Bool.false_eq_true, Nat.reduceBEq, Option.map_some, Option.map_none, reduceCtorEq, al26, ap39_39, bd26, bs39_1, fa26_0, ld22, ld26, ln39, sn22, sl22, sn39, sl39, st26, twoSign_eq, ev1, ev2, h1, h2, h3, h4, h5, ki, ko, wi, q12.rd 0 rfl, q12.rd 5 rfl, q12.rd 6 rfl, q10.rd 2 rfl, q10.rd 3 rfl, q11.rd 4 rfl, q11.rd 5 rfl]
          refine st_set q12 0 rfl fun H12 q13 => ?_
          simp only [List.set_cons_zero, List.set_cons_succ] at q13
          simp -implicitDefEqProofs only [kk0, kk1, kk2, kk3, rW_block, ↓two_true, ↓two_false, rW_cond, rO_guard, mkv, aggAt, Nat.reduceLeDiff, Nat.reduceSub, Nat.reduceMul, cond_true, cond_false, Option.bind_some, List.length_append, List.length_cons, List.length_nil, List.append_assoc, List.cons_append, List.nil_append, List.set_cons_zero, List.set_cons_succ, List.size_toArray, List.all_cons, List.all_nil, List.drop_zero, List.drop_succ_cons, List.take_succ_cons, List.take_zero, List.mem_cons, Prod.mk.injEq, List.not_mem_nil, implies_true, List.getElem?_toArray, List.getElem?_cons_zero, List.getElem?_cons_succ, List.getElem?_nil, Option.getD_some, Option.getD_none, Nat.reduceEqDiff, reduceIte, Nat.reduceAdd, List.map_toArray, List.map_cons, List.map_nil, Bool.false_eq_true, Nat.reduceBEq, Option.map_some, Option.map_none, reduceCtorEq, al26, ap39_39, bd26, bs39_1, fa26_0, ld22, ld26, ln39, sn22, sl22, sn39, sl39, st26, twoSign_eq, ev1, ev2, h1, h2, h3, h4, h5, ki, ko, wi, q13.rd 0 rfl, q13.rd 5 rfl, q13.rd 6 rfl, q10.rd 2 rfl, q10.rd 3 rfl, q11.rd 4 rfl, q11.rd 5 rfl, q12.rd 0 rfl, q12.rd 5 rfl, q12.rd 6 rfl]
          try simp -implicitDefEqProofs only [kk0, kk1, kk2, kk3, rW_block, ↓two_true, ↓two_false, rW_cond, rO_guard, mkv, aggAt, Nat.reduceLeDiff, Nat.reduceSub, Nat.reduceMul, cond_true, cond_false, Option.bind_some, List.length_append, List.length_cons, List.length_nil, List.append_assoc, List.cons_append, List.nil_append, List.set_cons_zero, List.set_cons_succ, List.size_toArray, List.all_cons, List.all_nil, List.drop_zero, List.drop_succ_cons, List.take_succ_cons, List.take_zero, List.mem_cons, Prod.mk.injEq, List.not_mem_nil, implies_true, List.getElem?_toArray, List.getElem?_cons_zero, List.getElem?_cons_succ, List.getElem?_nil, Option.getD_some, Option.getD_none, Nat.reduceEqDiff, reduceIte, Nat.reduceAdd, List.map_toArray, List.map_cons, List.map_nil, Bool.false_eq_true, Nat.reduceBEq, Option.map_some, Option.map_none, reduceCtorEq, al26, ap39_39, bd26, bs39_1, fa26_0, ld22, ld26, ln39, sn22, sl22, sn39, sl39, st26, twoSign_eq, ev1, ev2, h1, h2, h3, h4, h5, ki, ko, wi, q13.rd 0 rfl, q13.rd 5 rfl, q13.rd 6 rfl]
          refine two_intro (fun u5 => ?_) (fun u5 => ?_)
          ·
            have v4 : (rowsR sa da).length ≠ 0 := by omega
            have hne : R1.2 ≠ 0 := by simpa using u5
            have hC := scanC_at (s := s) hc hz (by rw [hred]; exact hne)
            rw [hred] at hC
            try simp -implicitDefEqProofs only [kk0, kk1, kk2, kk3, rW_block, ↓two_true, ↓two_false, rW_cond, rO_guard, mkv, aggAt, Nat.reduceLeDiff, Nat.reduceSub, Nat.reduceMul, cond_true, cond_false, Option.bind_some, List.length_append, List.length_cons, List.length_nil, List.append_assoc, List.cons_append, List.nil_append, List.set_cons_zero, List.set_cons_succ, List.size_toArray, List.all_cons, List.all_nil, List.drop_zero, List.drop_succ_cons, List.take_succ_cons, List.take_zero, List.mem_cons, Prod.mk.injEq, List.not_mem_nil, implies_true, List.getElem?_toArray, List.getElem?_cons_zero, List.getElem?_cons_succ, List.getElem?_nil, Option.getD_some, Option.getD_none, Nat.reduceEqDiff, reduceIte, Nat.reduceAdd, List.map_toArray, List.map_cons, List.map_nil, Bool.false_eq_true, Nat.reduceBEq, Option.map_some, Option.map_none, reduceCtorEq, al26, ap39_39, bd26, bs39_1, fa26_0, ld22, ld26, ln39, sn22, sl22, sn39, sl39, st26, twoSign_eq, ev1, ev2, h1, h2, h3, h4, h5, ki, ko, wi, q13.rd 0 rfl, q13.rd 5 rfl, q13.rd 6 rfl]
            refine st_set q13 5 rfl fun H13 q14 => ?_
            simp only [List.set_cons_zero, List.set_cons_succ] at q14
            simp -implicitDefEqProofs only [kk0, kk1, kk2, kk3, rW_block, ↓two_true, ↓two_false, rW_cond, rO_guard, mkv, aggAt, Nat.reduceLeDiff, Nat.reduceSub, Nat.reduceMul, cond_true, cond_false, Option.bind_some, List.length_append, List.length_cons, List.length_nil, List.append_assoc, List.cons_append, List.nil_append, List.set_cons_zero, List.set_cons_succ, List.size_toArray, List.all_cons, List.all_nil, List.drop_zero, List.drop_succ_cons, List.take_succ_cons, List.take_zero, List.mem_cons, Prod.mk.injEq, List.not_mem_nil, implies_true, List.getElem?_toArray, List.getElem?_cons_zero, List.getElem?_cons_succ, List.getElem?_nil, Option.getD_some, Option.getD_none, Nat.reduceEqDiff, reduceIte, Nat.reduceAdd, List.map_toArray, List.map_cons, List.map_nil, Bool.false_eq_true, Nat.reduceBEq, Option.map_some, Option.map_none, reduceCtorEq, al26, ap39_39, bd26, bs39_1, fa26_0, ld22, ld26, ln39, sn22, sl22, sn39, sl39, st26, twoSign_eq, ev1, ev2, h1, h2, h3, h4, h5, ki, ko, wi, q14.rd 0 rfl, q14.rd 5 rfl, q14.rd 6 rfl]
            -- end4
            exact q14.err (by unfold scanR; rw [v1, v2, if_pos (by rfl), if_neg v3, if_neg v4, hC]; exact if_neg hne)
          ·
            have hz1 : R1.2 = 0 := by simpa using u5
            have hz2 : ∀ j, j < i + 1 → (redL s ((rowsR sa da).take (j + 1))).2 = 0 := fun j hj => by
              rcases Nat.lt_or_ge j i with h | h
              · exact hz j h
              · have e : j = i := (by omega)
                rw [e, hred]; exact hz1
            have hrl : R1.1.1.length ≤ 3 ∧ R1.1.2.length ≤ 300 := by
              obtain ⟨m, _, e2, e3⟩ := scan_rows (s := s) v1 v3 (k := i + 1) hc hz2
              have := e3 R1.1 (by rw [scanL_step, hred]; simp)
              omega
            try simp -implicitDefEqProofs only [kk0, kk1, kk2, kk3, rW_block, ↓two_true, ↓two_false, rW_cond, rO_guard, mkv, aggAt, Nat.reduceLeDiff, Nat.reduceSub, Nat.reduceMul, cond_true, cond_false, Option.bind_some, List.length_append, List.length_cons, List.length_nil, List.append_assoc, List.cons_append, List.nil_append, List.set_cons_zero, List.set_cons_succ, List.size_toArray, List.all_cons, List.all_nil, List.drop_zero, List.drop_succ_cons, List.take_succ_cons, List.take_zero, List.mem_cons, Prod.mk.injEq, List.not_mem_nil, implies_true, List.getElem?_toArray, List.getElem?_cons_zero, List.getElem?_cons_succ, List.getElem?_nil, Option.getD_some, Option.getD_none, Nat.reduceEqDiff, reduceIte, Nat.reduceAdd, List.map_toArray, List.map_cons, List.map_nil, Bool.false_eq_true, Nat.reduceBEq, Option.map_some, Option.map_none, reduceCtorEq, al26, ap39_39, bd26, bs39_1, fa26_0, ld22, ld26, ln39, sn22, sl22, sn39, sl39, st26, twoSign_eq, ev1, ev2, h1, h2, h3, h4, h5, ki, ko, wi, q13.rd 0 rfl, q13.rd 5 rfl, q13.rd 6 rfl]
            refine st_cells q13 fun H14 q15 => ?_
            simp -implicitDefEqProofs only [kk0, kk1, kk2, kk3, rW_block, ↓two_true, ↓two_false, rW_cond, rO_guard, mkv, aggAt, Nat.reduceLeDiff, Nat.reduceSub, Nat.reduceMul, cond_true, cond_false, Option.bind_some, List.length_append, List.length_cons, List.length_nil, List.append_assoc, List.cons_append, List.nil_append, List.set_cons_zero, List.set_cons_succ, List.size_toArray, List.all_cons, List.all_nil, List.drop_zero, List.drop_succ_cons, List.take_succ_cons, List.take_zero, List.mem_cons, Prod.mk.injEq, List.not_mem_nil, implies_true, List.getElem?_toArray, List.getElem?_cons_zero, List.getElem?_cons_succ, List.getElem?_nil, Option.getD_some, Option.getD_none, Nat.reduceEqDiff, reduceIte, Nat.reduceAdd, List.map_toArray, List.map_cons, List.map_nil, Bool.false_eq_true, Nat.reduceBEq, Option.map_some, Option.map_none, reduceCtorEq, al26, ap39_39, bd26, bs39_1, fa26_0, ld22, ld26, ln39, sn22, sl22, sn39, sl39, st26, twoSign_eq, ev1, ev2, h1, h2, h3, h4, h5, ki, ko, wi, q15.rd 0 rfl, q15.rd 1 rfl, q15.rd 6 rfl, q15.rd 7 rfl]
            have q16 := q15.fzr 2 rfl
            simp only [List.set_cons_zero, List.set_cons_succ] at q16
            have q17 := q16.fzr 3 rfl
            simp only [List.set_cons_zero, List.set_cons_succ] at q17
            refine st_app2 q17 4 0 2 3 rfl rfl rfl rfl (by omega) (by omega) (by omega) fun a8 c8 H15 ys2 q18 => ?_
            simp only [List.set_cons_zero, List.set_cons_succ] at q18
            simp -implicitDefEqProofs only [kk0, kk1, kk2, kk3, rW_block, ↓two_true, ↓two_false, rW_cond, rO_guard, mkv, aggAt, Nat.reduceLeDiff, Nat.reduceSub, Nat.reduceMul, cond_true, cond_false, Option.bind_some, List.length_append, List.length_cons, List.length_nil, List.append_assoc, List.cons_append, List.nil_append, List.set_cons_zero, List.set_cons_succ, List.size_toArray, List.all_cons, List.all_nil, List.drop_zero, List.drop_succ_cons, List.take_succ_cons, List.take_zero, List.mem_cons, Prod.mk.injEq, List.not_mem_nil, implies_true, List.getElem?_toArray, List.getElem?_cons_zero, List.getElem?_cons_succ, List.getElem?_nil, Option.getD_some, Option.getD_none, Nat.reduceEqDiff, reduceIte, Nat.reduceAdd, List.map_toArray, List.map_cons, List.map_nil, Bool.false_eq_true, Nat.reduceBEq, Option.map_some, Option.map_none, reduceCtorEq, al26, ap39_39, bd26, bs39_1, fa26_0, ld22, ld26, ln39, sn22, sl22, sn39, sl39, st26, twoSign_eq, ev1, ev2, h1, h2, h3, h4, h5, ki, ko, wi, q18.rd 0 rfl, q18.rd 1 rfl, q18.rd 6 rfl, q18.rd 7 rfl]
            -- back loop1
            refine ⟨(i + 1, a8, c8, ys2), (by simp only; omega), ⟨rfl, rfl, rfl, rfl, rfl, trivial⟩, ⟨by first | rfl | simp, rfl, hc, hz2⟩, ?_⟩
            simp only [List.set_cons_zero, List.set_cons_succ, scanL_step, hred]
            exact q18.pick [4, 5, 6, 7] _ rfl (by decide)
        ·
          have hil : i = (rowsR sa da).length := Nat.le_antisymm hi (Nat.not_lt.1 (by simpa using u4))
          subst hil
          obtain ⟨a9, c9, ev3, hv3⟩ := IntRow.tl a.os (by omega)
          try simp -implicitDefEqProofs only [kk0, kk1, kk2, kk3, rW_block, ↓two_true, ↓two_false, rW_cond, rO_guard, mkv, aggAt, Nat.reduceLeDiff, Nat.reduceSub, Nat.reduceMul, cond_true, cond_false, Option.bind_some, List.length_append, List.length_cons, List.length_nil, List.append_assoc, List.cons_append, List.nil_append, List.set_cons_zero, List.set_cons_succ, List.size_toArray, List.all_cons, List.all_nil, List.drop_zero, List.drop_succ_cons, List.take_succ_cons, List.take_zero, List.mem_cons, Prod.mk.injEq, List.not_mem_nil, implies_true, List.getElem?_toArray, List.getElem?_cons_zero, List.getElem?_cons_succ, List.getElem?_nil, Option.getD_some, Option.getD_none, Nat.reduceEqDiff, reduceIte, Nat.reduceAdd, List.map_toArray, List.map_cons, List.map_nil, Bool.false_eq_true, Nat.reduceBEq, Option.map_some, Option.map_none, reduceCtorEq, al26, ap39_39, bd26, bs39_1, fa26_0, ld22, ld26, ln39, sn22, sl22, sn39, sl39, st26, twoSign_eq, ev3, h1, h2, h3, h4, h5, ki, ko, wi, q10.rd 2 rfl, q10.rd 3 rfl]
          refine (joined_ok (q10.rowsT 0 rfl).1 (hv3.ext q10.ext) (by rw [scanL_len]; omega) (by omega) (by have := scan_len (s := s) v1 v3 hz; omega) ).mono ?_
          rintro _ H16 ⟨p5, p6, rfl, g3⟩
          obtain ⟨R2, hR2⟩ : ∃ R, joinR (scanL s (rowsR sa da) (rowsR sa da).length) sa.tail = R := ⟨_, rfl⟩
          rw [hR2] at g3 ⊢
          have q19 := q10.join g3
          simp only [List.map_cons, List.map_nil, List.cons_append, List.nil_append] at q19
          obtain ⟨a10, c10, rfl⟩ := (q19.own 0 rfl).isSlice
          obtain ⟨a11, c11, rfl⟩ := (q19.own 1 rfl).isSlice
          simp -implicitDefEqProofs only [kk0, kk1, kk2, kk3, rW_block, ↓two_true, ↓two_false, rW_cond, rO_guard, mkv, aggAt, Nat.reduceLeDiff, Nat.reduceSub, Nat.reduceMul, cond_true, cond_false, Option.bind_some, List.length_append, List.length_cons, List.length_nil, List.append_assoc, List.cons_append, List.nil_append, List.set_cons_zero, List.set_cons_succ, List.size_toArray, List.all_cons, List.all_nil, List.drop_zero, List.drop_succ_cons, List.take_succ_cons, List.take_zero, List.mem_cons, Prod.mk.injEq, List.not_mem_nil, implies_true, List.getElem?_toArray, List.getElem?_cons_zero, List.getElem?_cons_succ, List.getElem?_nil, Option.getD_some, Option.getD_none, Nat.reduceEqDiff, reduceIte, Nat.reduceAdd, List.map_toArray, List.map_cons, List.map_nil, Bool.false_eq_true, Nat.reduceBEq, Option.map_some, Option.map_none, reduceCtorEq, al26, ap39_39, bd26, bs39_1, fa26_0, ld22, ld26, ln39, sn22, sl22, sn39, sl39, st26, twoSign_eq, ev3, h1, h2, h3, h4, h5, ki, ko, wi, q19.rd 4 rfl, q19.rd 5 rfl]
          refine st_set q19 4 rfl fun H17 q20 => ?_
          simp only [List.set_cons_zero, List.set_cons_succ] at q20
          simp -implicitDefEqProofs only [kk0, kk1, kk2, kk3, rW_block, ↓two_true, ↓two_false, rW_cond, rO_guard, mkv, aggAt, Nat.reduceLeDiff, Nat.reduceSub, Nat.reduceMul, cond_true, cond_false, Option.bind_some, List.length_append, List.length_cons, List.length_nil, List.append_assoc, List.cons_append, List.nil_append, List.set_cons_zero, List.set_cons_succ, List.size_toArray, List.all_cons, List.all_nil, List.drop_zero, List.drop_succ_cons, List.take_succ_cons, List.take_zero, List.mem_cons, Prod.mk.injEq, List.not_mem_nil, implies_true, List.getElem?_toArray, List.getElem?_cons_zero, List.getElem?_cons_succ, List.getElem?_nil, Option.getD_some, Option.getD_none, Nat.reduceEqDiff, reduceIte, Nat.reduceAdd, List.map_toArray, List.map_cons, List.map_nil, Bool.false_eq_true, Nat.reduceBEq, Option.map_some, Option.map_none, reduceCtorEq, al26, ap39_39, bd26, bs39_1, fa26_0, ld22, ld26, ln39, sn22, sl22, sn39, sl39, st26, twoSign_eq, ev3, h1, h2, h3, h4, h5, ki, ko, wi, q20.rd 4 rfl, q20.rd 5 rfl]
          -- end5
          exact q20.ans 0 1 (by decide) rfl rfl (by unfold scanR; rw [v1, v2, if_pos (by rfl), if_neg v3, if_neg v4, scanC_no hz, if_pos rfl, ← hR2]; unfold joinR; rw [scanL_len, (scan_ok (s := s) v1 v3 hz v4).1, if_pos rfl])

theorem specScan_ok {H : AH} {s : Int} {pa qa : Value} {sa da : List Int} (a : AR H pa qa sa da) : CallsA Try.prog 13 #[.int .i64 s, .agg #[pa, qa]] H fun r H' => Ans1 H H' r (scanR s sa da) := by
  have al := a.l1
  have bl := a.l2
  obtain ⟨za, zc, zb, zd, rfl, rfl⟩ := a.o1
  have q := (LX.nil (H := H))
  refine w13 ?_
  unfold k13
  simp -implicitDefEqProofs only [kk0, kk1, kk2, kk3, rW_block, ↓two_true, ↓two_false, rW_cond, rO_guard, mkv, aggAt, Nat.reduceLeDiff, Nat.reduceSub, Nat.reduceMul, cond_true, cond_false, Option.bind_some, List.length_append, List.length_cons, List.length_nil, List.append_assoc, List.cons_append, List.nil_append, List.set_cons_zero, List.set_cons_succ, List.size_toArray, List.all_cons, List.all_nil, List.drop_zero, List.drop_succ_cons, List.take_succ_cons, List.take_zero, List.mem_cons, Prod.mk.injEq, List.not_mem_nil, implies_true, List.getElem?_toArray, List.getElem?_cons_zero, List.getElem?_cons_succ, List.getElem?_nil, Option.getD_some, Option.getD_none, Nat.reduceEqDiff, reduceIte, Nat.reduceAdd, List.map_toArray, List.map_cons, List.map_nil, Bool.false_eq_true, Nat.reduceBEq, Option.map_some, Option.map_none, reduceCtorEq, al26, ap39_39, bd26, bs39_0, bs39_1, fa26_0, ld22, ld26, ln22, ln39, sn22, sl22, sn39, sl39, st26, l1Sign2_eq]
  refine st_box q fun H1 q1 => ?_
  simp -implicitDefEqProofs only [kk0, kk1, kk2, kk3, rW_block, ↓two_true, ↓two_false, rW_cond, rO_guard, mkv, aggAt, Nat.reduceLeDiff, Nat.reduceSub, Nat.reduceMul, cond_true, cond_false, Option.bind_some, List.length_append, List.length_cons, List.length_nil, List.append_assoc, List.cons_append, List.nil_append, List.set_cons_zero, List.set_cons_succ, List.size_toArray, List.all_cons, List.all_nil, List.drop_zero, List.drop_succ_cons, List.take_succ_cons, List.take_zero, List.mem_cons, Prod.mk.injEq, List.not_mem_nil, implies_true, List.getElem?_toArray, List.getElem?_cons_zero, List.getElem?_cons_succ, List.getElem?_nil, Option.getD_some, Option.getD_none, Nat.reduceEqDiff, reduceIte, Nat.reduceAdd, List.map_toArray, List.map_cons, List.map_nil, Bool.false_eq_true, Nat.reduceBEq, Option.map_some, Option.map_none, reduceCtorEq, al26, ap39_39, bd26, bs39_0, bs39_1, fa26_0, ld22, ld26, ln22, ln39, sn22, sl22, sn39, sl39, st26, l1Sign2_eq, q1.rd 0 rfl]
  refine st_box q1 fun H2 q2 => ?_
  simp -implicitDefEqProofs only [kk0, kk1, kk2, kk3, rW_block, ↓two_true, ↓two_false, rW_cond, rO_guard, mkv, aggAt, Nat.reduceLeDiff, Nat.reduceSub, Nat.reduceMul, cond_true, cond_false, Option.bind_some, List.length_append, List.length_cons, List.length_nil, List.append_assoc, List.cons_append, List.nil_append, List.set_cons_zero, List.set_cons_succ, List.size_toArray, List.all_cons, List.all_nil, List.drop_zero, List.drop_succ_cons, List.take_succ_cons, List.take_zero, List.mem_cons, Prod.mk.injEq, List.not_mem_nil, implies_true, List.getElem?_toArray, List.getElem?_cons_zero, List.getElem?_cons_succ, List.getElem?_nil, Option.getD_some, Option.getD_none, Nat.reduceEqDiff, reduceIte, Nat.reduceAdd, List.map_toArray, List.map_cons, List.map_nil, Bool.false_eq_true, Nat.reduceBEq, Option.map_some, Option.map_none, reduceCtorEq, al26, ap39_39, bd26, bs39_0, bs39_1, fa26_0, ld22, ld26, ln22, ln39, sn22, sl22, sn39, sl39, st26, l1Sign2_eq, q2.rd 0 rfl, q2.rd 1 rfl]
  refine (specOk_ar (a.ext q2.ext)).mono ?_
  rintro _ H3 ⟨rfl, he1⟩
  have q3 := q2.extd he1
  simp -implicitDefEqProofs only [kk0, kk1, kk2, kk3, rW_block, ↓two_true, ↓two_false, rW_cond, rO_guard, mkv, aggAt, Nat.reduceLeDiff, Nat.reduceSub, Nat.reduceMul, cond_true, cond_false, Option.bind_some, List.length_append, List.length_cons, List.length_nil, List.append_assoc, List.cons_append, List.nil_append, List.set_cons_zero, List.set_cons_succ, List.size_toArray, List.all_cons, List.all_nil, List.drop_zero, List.drop_succ_cons, List.take_succ_cons, List.take_zero, List.mem_cons, Prod.mk.injEq, List.not_mem_nil, implies_true, List.getElem?_toArray, List.getElem?_cons_zero, List.getElem?_cons_succ, List.getElem?_nil, Option.getD_some, Option.getD_none, Nat.reduceEqDiff, reduceIte, Nat.reduceAdd, List.map_toArray, List.map_cons, List.map_nil, Bool.false_eq_true, Nat.reduceBEq, Option.map_some, Option.map_none, reduceCtorEq, al26, ap39_39, bd26, bs39_0, bs39_1, fa26_0, ld22, ld26, ln22, ln39, sn22, sl22, sn39, sl39, st26, l1Sign2_eq, q3.rd 0 rfl, q3.rd 1 rfl]
  refine two_intro (fun u1 => ?_) (fun u1 => ?_)
  ·
    try simp -implicitDefEqProofs only [kk0, kk1, kk2, kk3, rW_block, ↓two_true, ↓two_false, rW_cond, rO_guard, mkv, aggAt, Nat.reduceLeDiff, Nat.reduceSub, Nat.reduceMul, cond_true, cond_false, Option.bind_some, List.length_append, List.length_cons, List.length_nil, List.append_assoc, List.cons_append, List.nil_append, List.set_cons_zero, List.set_cons_succ, List.size_toArray, List.all_cons, List.all_nil, List.drop_zero, List.drop_succ_cons, List.take_succ_cons, List.take_zero, List.mem_cons, Prod.mk.injEq, List.not_mem_nil, implies_true, List.getElem?_toArray, List.getElem?_cons_zero, List.getElem?_cons_succ, List.getElem?_nil, Option.getD_some, Option.getD_none, Nat.reduceEqDiff, reduceIte, Nat.reduceAdd, List.map_toArray, List.map_cons, List.map_nil, Bool.false_eq_true, Nat.reduceBEq, Option.map_some, Option.map_none, reduceCtorEq, al26, ap39_39, bd26, bs39_0, bs39_1, fa26_0, ld22, ld26, ln22, ln39, sn22, sl22, sn39, sl39, st26, l1Sign2_eq, q3.rd 0 rfl, q3.rd 1 rfl]
    refine st_set q3 0 rfl fun H4 q4 => ?_
    simp only [List.set_cons_zero, List.set_cons_succ] at q4
    simp -implicitDefEqProofs only [kk0, kk1, kk2, kk3, rW_block, ↓two_true, ↓two_false, rW_cond, rO_guard, mkv, aggAt, Nat.reduceLeDiff, Nat.reduceSub, Nat.reduceMul, cond_true, cond_false, Option.bind_some, List.length_append, List.length_cons, List.length_nil, List.append_assoc, List.cons_append, List.nil_append, List.set_cons_zero, List.set_cons_succ, List.size_toArray, List.all_cons, List.all_nil, List.drop_zero, List.drop_succ_cons, List.take_succ_cons, List.take_zero, List.mem_cons, Prod.mk.injEq, List.not_mem_nil, implies_true, List.getElem?_toArray, List.getElem?_cons_zero, List.getElem?_cons_succ, List.getElem?_nil, Option.getD_some, Option.getD_none, Nat.reduceEqDiff, reduceIte, Nat.reduceAdd, List.map_toArray, List.map_cons, List.map_nil, Bool.false_eq_true, Nat.reduceBEq, Option.map_some, Option.map_none, reduceCtorEq, al26, ap39_39, bd26, bs39_0, bs39_1, fa26_0, ld22, ld26, ln22, ln39, sn22, sl22, sn39, sl39, st26, l1Sign2_eq, q4.rd 0 rfl, q4.rd 1 rfl]
    -- end1
    exact q4.err (by simp [scanR, show arrOk sa da = false by simpa using u1])
  ·
    have v1 : arrOk sa da = true := by simpa using u1
    try simp -implicitDefEqProofs only [kk0, kk1, kk2, kk3, rW_block, ↓two_true, ↓two_false, rW_cond, rO_guard, mkv, aggAt, Nat.reduceLeDiff, Nat.reduceSub, Nat.reduceMul, cond_true, cond_false, Option.bind_some, List.length_append, List.length_cons, List.length_nil, List.append_assoc, List.cons_append, List.nil_append, List.set_cons_zero, List.set_cons_succ, List.size_toArray, List.all_cons, List.all_nil, List.drop_zero, List.drop_succ_cons, List.take_succ_cons, List.take_zero, List.mem_cons, Prod.mk.injEq, List.not_mem_nil, implies_true, List.getElem?_toArray, List.getElem?_cons_zero, List.getElem?_cons_succ, List.getElem?_nil, Option.getD_some, Option.getD_none, Nat.reduceEqDiff, reduceIte, Nat.reduceAdd, List.map_toArray, List.map_cons, List.map_nil, Bool.false_eq_true, Nat.reduceBEq, Option.map_some, Option.map_none, reduceCtorEq, al26, ap39_39, bd26, bs39_0, bs39_1, fa26_0, ld22, ld26, ln22, ln39, sn22, sl22, sn39, sl39, st26, l1Sign2_eq, q3.rd 0 rfl, q3.rd 1 rfl]
    refine two_intro (fun u2 => ?_) (fun u2 => ?_)
    ·
      try simp -implicitDefEqProofs only [kk0, kk1, kk2, kk3, rW_block, ↓two_true, ↓two_false, rW_cond, rO_guard, mkv, aggAt, Nat.reduceLeDiff, Nat.reduceSub, Nat.reduceMul, cond_true, cond_false, Option.bind_some, List.length_append, List.length_cons, List.length_nil, List.append_assoc, List.cons_append, List.nil_append, List.set_cons_zero, List.set_cons_succ, List.size_toArray, List.all_cons, List.all_nil, List.drop_zero, List.drop_succ_cons, List.take_succ_cons, List.take_zero, List.mem_cons, Prod.mk.injEq, List.not_mem_nil, implies_true, List.getElem?_toArray, List.getElem?_cons_zero, List.getElem?_cons_succ, List.getElem?_nil, Option.getD_some, Option.getD_none, Nat.reduceEqDiff, reduceIte, Nat.reduceAdd, List.map_toArray, List.map_cons, List.map_nil, Bool.false_eq_true, Nat.reduceBEq, Option.map_some, Option.map_none, reduceCtorEq, al26, ap39_39, bd26, bs39_0, bs39_1, fa26_0, ld22, ld26, ln22, ln39, sn22, sl22, sn39, sl39, st26, l1Sign2_eq, q3.rd 0 rfl, q3.rd 1 rfl]
      refine st_set q3 0 rfl fun H5 q5 => ?_
      simp only [List.set_cons_zero, List.set_cons_succ] at q5
      simp -implicitDefEqProofs only [kk0, kk1, kk2, kk3, rW_block, ↓two_true, ↓two_false, rW_cond, rO_guard, mkv, aggAt, Nat.reduceLeDiff, Nat.reduceSub, Nat.reduceMul, cond_true, cond_false, Option.bind_some, List.length_append, List.length_cons, List.length_nil, List.append_assoc, List.cons_append, List.nil_append, List.set_cons_zero, List.set_cons_succ, List.size_toArray, List.all_cons, List.all_nil, List.drop_zero, List.drop_succ_cons, List.take_succ_cons, List.take_zero, List.mem_cons, Prod.mk.injEq, List.not_mem_nil, implies_true, List.getElem?_toArray, List.getElem?_cons_zero, List.getElem?_cons_succ, List.getElem?_nil, Option.getD_some, Option.getD_none, Nat.reduceEqDiff, reduceIte, Nat.reduceAdd, List.map_toArray, List.map_cons, List.map_nil, Bool.false_eq_true, Nat.reduceBEq, Option.map_some, Option.map_none, reduceCtorEq, al26, ap39_39, bd26, bs39_0, bs39_1, fa26_0, ld22, ld26, ln22, ln39, sn22, sl22, sn39, sl39, st26, l1Sign2_eq, q5.rd 0 rfl, q5.rd 1 rfl]
      -- end2
      exact q5.err (by simp [scanR, show sg2 s = false by simpa using u2])
    ·
      have v2 : sg2 s = true := by simpa using u2
      try simp -implicitDefEqProofs only [kk0, kk1, kk2, kk3, rW_block, ↓two_true, ↓two_false, rW_cond, rO_guard, mkv, aggAt, Nat.reduceLeDiff, Nat.reduceSub, Nat.reduceMul, cond_true, cond_false, Option.bind_some, List.length_append, List.length_cons, List.length_nil, List.append_assoc, List.cons_append, List.nil_append, List.set_cons_zero, List.set_cons_succ, List.size_toArray, List.all_cons, List.all_nil, List.drop_zero, List.drop_succ_cons, List.take_succ_cons, List.take_zero, List.mem_cons, Prod.mk.injEq, List.not_mem_nil, implies_true, List.getElem?_toArray, List.getElem?_cons_zero, List.getElem?_cons_succ, List.getElem?_nil, Option.getD_some, Option.getD_none, Nat.reduceEqDiff, reduceIte, Nat.reduceAdd, List.map_toArray, List.map_cons, List.map_nil, Bool.false_eq_true, Nat.reduceBEq, Option.map_some, Option.map_none, reduceCtorEq, al26, ap39_39, bd26, bs39_0, bs39_1, fa26_0, ld22, ld26, ln22, ln39, sn22, sl22, sn39, sl39, st26, l1Sign2_eq, q3.rd 0 rfl, q3.rd 1 rfl]
      refine two_intro (fun u3 => ?_) (fun u3 => ?_)
      ·
        have v3 : sa.length = 0 := by simpa using u3
        try simp -implicitDefEqProofs only [kk0, kk1, kk2, kk3, rW_block, ↓two_true, ↓two_false, rW_cond, rO_guard, mkv, aggAt, Nat.reduceLeDiff, Nat.reduceSub, Nat.reduceMul, cond_true, cond_false, Option.bind_some, List.length_append, List.length_cons, List.length_nil, List.append_assoc, List.cons_append, List.nil_append, List.set_cons_zero, List.set_cons_succ, List.size_toArray, List.all_cons, List.all_nil, List.drop_zero, List.drop_succ_cons, List.take_succ_cons, List.take_zero, List.mem_cons, Prod.mk.injEq, List.not_mem_nil, implies_true, List.getElem?_toArray, List.getElem?_cons_zero, List.getElem?_cons_succ, List.getElem?_nil, Option.getD_some, Option.getD_none, Nat.reduceEqDiff, reduceIte, Nat.reduceAdd, List.map_toArray, List.map_cons, List.map_nil, Bool.false_eq_true, Nat.reduceBEq, Option.map_some, Option.map_none, reduceCtorEq, al26, ap39_39, bd26, bs39_0, bs39_1, fa26_0, ld22, ld26, ln22, ln39, sn22, sl22, sn39, sl39, st26, l1Sign2_eq, q3.rd 0 rfl, q3.rd 1 rfl]
        refine (l3CopyA_ok (a.ext q3.ext)).mono ?_
        rintro _ H6 ⟨p1, p2, rfl, g1⟩
        have q6 := q3.join g1
        simp only [List.map_cons, List.map_nil, List.cons_append, List.nil_append] at q6
        obtain ⟨a1, c1, rfl⟩ := (q6.own 0 rfl).isSlice
        obtain ⟨a2, c2, rfl⟩ := (q6.own 1 rfl).isSlice
        simp -implicitDefEqProofs only [kk0, kk1, kk2, kk3, rW_block, ↓two_true, ↓two_false, rW_cond, rO_guard, mkv, aggAt, Nat.reduceLeDiff, Nat.reduceSub, Nat.reduceMul, cond_true, cond_false, Option.bind_some, List.length_append, List.length_cons, List.length_nil, List.append_assoc, List.cons_append, List.nil_append, List.set_cons_zero, List.set_cons_succ, List.size_toArray, List.all_cons, List.all_nil, List.drop_zero, List.drop_succ_cons, List.take_succ_cons, List.take_zero, List.mem_cons, Prod.mk.injEq, List.not_mem_nil, implies_true, List.getElem?_toArray, List.getElem?_cons_zero, List.getElem?_cons_succ, List.getElem?_nil, Option.getD_some, Option.getD_none, Nat.reduceEqDiff, reduceIte, Nat.reduceAdd, List.map_toArray, List.map_cons, List.map_nil, Bool.false_eq_true, Nat.reduceBEq, Option.map_some, Option.map_none, reduceCtorEq, al26, ap39_39, bd26, bs39_0, bs39_1, fa26_0, ld22, ld26, ln22, ln39, sn22, sl22, sn39, sl39, st26, l1Sign2_eq, q6.rd 2 rfl, q6.rd 3 rfl]
        refine st_set q6 2 rfl fun H7 q7 => ?_
        simp only [List.set_cons_zero, List.set_cons_succ] at q7
        simp -implicitDefEqProofs only [kk0, kk1, kk2, kk3, rW_block, ↓two_true, ↓two_false, rW_cond, rO_guard, mkv, aggAt, Nat.reduceLeDiff, Nat.reduceSub, Nat.reduceMul, cond_true, cond_false, Option.bind_some, List.length_append, List.length_cons, List.length_nil, List.append_assoc, List.cons_append, List.nil_append, List.set_cons_zero, List.set_cons_succ, List.size_toArray, List.all_cons, List.all_nil, List.drop_zero, List.drop_succ_cons, List.take_succ_cons, List.take_zero, List.mem_cons, Prod.mk.injEq, List.not_mem_nil, implies_true, List.getElem?_toArray, List.getElem?_cons_zero, List.getElem?_cons_succ, List.getElem?_nil, Option.getD_some, Option.getD_none, Nat.reduceEqDiff, reduceIte, Nat.reduceAdd, List.map_toArray, List.map_cons, List.map_nil, Bool.false_eq_true, Nat.reduceBEq, Option.map_some, Option.map_none, reduceCtorEq, al26, ap39_39, bd26, bs39_0, bs39_1, fa26_0, ld22, ld26, ln22, ln39, sn22, sl22, sn39, sl39, st26, l1Sign2_eq, q7.rd 2 rfl, q7.rd 3 rfl]
        -- end3
        exact q7.ans 0 1 (by decide) rfl rfl (by unfold scanR; rw [v1, v2, if_pos (by rfl), if_pos v3])
      ·
        have v3 : sa.length ≠ 0 := by simpa using u3
        have hne : sa ≠ [] := by rintro rfl; exact v3 rfl
        obtain ⟨m1, m2, m3⟩ := rowsR_lim v1 v3
        have hsl3 : sa.length ≤ 3 := (sizeI_ok (by have := (arrOk_size v1).1; omega)).1
        have htl : sa.tail.length ≤ 3 := by simp; omega
        try simp -implicitDefEqProofs only [kk0, kk1, kk2, kk3, rW_block, ↓two_true, ↓two_false, rW_cond, rO_guard, mkv, aggAt, Nat.reduceLeDiff, Nat.reduceSub, Nat.reduceMul, cond_true, cond_false, Option.bind_some, List.length_append, List.length_cons, List.length_nil, List.append_assoc, List.cons_append, List.nil_append, List.set_cons_zero, List.set_cons_succ, List.size_toArray, List.all_cons, List.all_nil, List.drop_zero, List.drop_succ_cons, List.take_succ_cons, List.take_zero, List.mem_cons, Prod.mk.injEq, List.not_mem_nil, implies_true, List.getElem?_toArray, List.getElem?_cons_zero, List.getElem?_cons_succ, List.getElem?_nil, Option.getD_some, Option.getD_none, Nat.reduceEqDiff, reduceIte, Nat.reduceAdd, List.map_toArray, List.map_cons, List.map_nil, Bool.false_eq_true, Nat.reduceBEq, Option.map_some, Option.map_none, reduceCtorEq, al26, ap39_39, bd26, bs39_0, bs39_1, fa26_0, ld22, ld26, ln22, ln39, sn22, sl22, sn39, sl39, st26, l1Sign2_eq, q3.rd 0 rfl, q3.rd 1 rfl]
        refine (l3Rows_ok (a.ext q3.ext) v1 hne).mono ?_
        rintro rv1 H8 ⟨⟨ys1, nw1, cv1⟩, he2⟩
        have q8 := q3.nrows nw1 cv1 he2
        obtain ⟨a3, c3, rfl, -⟩ := (q8.rowsF 0 rfl).1
        simp -implicitDefEqProofs only [kk0, kk1, kk2, kk3, rW_block, ↓two_true, ↓two_false, rW_cond, rO_guard, mkv, aggAt, Nat.reduceLeDiff, Nat.reduceSub, Nat.reduceMul, cond_true, cond_false, Option.bind_some, List.length_append, List.length_cons, List.length_nil, List.append_assoc, List.cons_append, List.nil_append, List.set_cons_zero, List.set_cons_succ, List.size_toArray, List.all_cons, List.all_nil, List.drop_zero, List.drop_succ_cons, List.take_succ_cons, List.take_zero, List.mem_cons, Prod.mk.injEq, List.not_mem_nil, implies_true, List.getElem?_toArray, List.getElem?_cons_zero, List.getElem?_cons_succ, List.getElem?_nil, Option.getD_some, Option.getD_none, Nat.reduceEqDiff, reduceIte, Nat.reduceAdd, List.map_toArray, List.map_cons, List.map_nil, Bool.false_eq_true, Nat.reduceBEq, Option.map_some, Option.map_none, reduceCtorEq, al26, ap39_39, bd26, bs39_0, bs39_1, fa26_0, ld22, ld26, ln22, ln39, sn22, sl22, sn39, sl39, st26, l1Sign2_eq, q8.rd 1 rfl, q8.rd 2 rfl]
        refine st_cells q8 fun H9 q9 => ?_
        simp -implicitDefEqProofs only [kk0, kk1, kk2, kk3, rW_block, ↓two_true, ↓two_false, rW_cond, rO_guard, mkv, aggAt, Nat.reduceLeDiff, Nat.reduceSub, Nat.reduceMul, cond_true, cond_false, Option.bind_some, List.length_append, List.length_cons, List.length_nil, List.append_assoc, List.cons_append, List.nil_append, List.set_cons_zero, List.set_cons_succ, List.size_toArray, List.all_cons, List.all_nil, List.drop_zero, List.drop_succ_cons, List.take_succ_cons, List.take_zero, List.mem_cons, Prod.mk.injEq, List.not_mem_nil, implies_true, List.getElem?_toArray, List.getElem?_cons_zero, List.getElem?_cons_succ, List.getElem?_nil, Option.getD_some, Option.getD_none, Nat.reduceEqDiff, reduceIte, Nat.reduceAdd, List.map_toArray, List.map_cons, List.map_nil, Bool.false_eq_true, Nat.reduceBEq, Option.map_some, Option.map_none, reduceCtorEq, al26, ap39_39, bd26, bs39_0, bs39_1, fa26_0, ld22, ld26, ln22, ln39, sn22, sl22, sn39, sl39, st26, l1Sign2_eq, q9.rd 0 rfl, q9.rd 2 rfl, q9.rd 3 rfl]
        have q10 := q9.tab0 0 rfl [.r, .r] 2 rfl
        simp only [List.set_cons_zero, List.set_cons_succ] at q10
        refine rW_loopQ (σ := Nat × Option Addr × Nat × List Value) q10 [0, 3, 4, 6] (fun x tm => tm 8 = .int .i64 x.1 ∧ tm 7 = .slice x.2.1 x.1 x.2.2.1 ∧ x.1 ≤ (rowsR sa da).length ∧ ∀ j, j < x.1 → (redL s ((rowsR sa da).take (j + 1))).2 = 0) (fun x L => L.set 0 (.tab (.slice x.2.1 x.1 x.2.2.1) [.r, .r] x.1 x.2.2.2 (rowsV (scanL s (rowsR sa da) x.1)))) (fun x => (rowsR sa da).length - x.1) (0, some ⟨H8.length, 0, none⟩, 2, []) ⟨rfl, rfl, Nat.zero_le _, fun j hj => by simp at hj⟩ rfl ?_
        rintro ⟨i, av, cv, ys⟩ tm1 H10 ⟨h1, h2, h3, h4, -⟩ ⟨ki, ko, hi, hz⟩ q11
        simp -implicitDefEqProofs only [kk0, kk1, kk2, kk3, rW_block, ↓two_true, ↓two_false, rW_cond, rO_guard, mkv, aggAt, Nat.reduceLeDiff, Nat.reduceSub, Nat.reduceMul, cond_true, cond_false, Option.bind_some, List.length_append, List.length_cons, List.length_nil, List.append_assoc, List.cons_append, List.nil_append, List.set_cons_zero, List.set_cons_succ, List.size_toArray, List.all_cons, List.all_nil, List.drop_zero, List.drop_succ_cons, List.take_succ_cons, List.take_zero, List.mem_cons, Prod.mk.injEq, List.not_mem_nil, implies_true, List.getElem?_toArray, List.getElem?_cons_zero, List.getElem?_cons_succ, List.getElem?_nil, Option.getD_some, Option.getD_none, Nat.reduceEqDiff, reduceIte, Nat.reduceAdd, List.map_toArray, List.map_cons, List.map_nil, Bool.false_eq_true, Nat.reduceBEq, Option.map_some, Option.map_none, reduceCtorEq, al26, ap39_39, bd26, bs39_0, bs39_1, fa26_0, ld22, ld26, ln22, ln39, sn22, sl22, sn39, sl39, st26] at h1 h2 h3 h4
        simp only [List.set_cons_zero, List.set_cons_succ] at q11
        simp only at ki ko hi hz
        have wi : IntKind.i64.wrap ((i : Int) + 1) = ((i + 1 : Nat) : Int) := IntWalk.i64_in ((i : Int) + 1) (by omega)
        simp -implicitDefEqProofs only [kk0, kk1, kk2, kk3, rW_block, ↓two_true, ↓two_false, rW_cond, rO_guard, mkv, aggAt, Nat.reduceLeDiff, Nat.reduceSub, Nat.reduceMul, cond_true, cond_false, Option.bind_some, List.length_append, List.length_cons, List.length_nil, List.append_assoc, List.cons_append, List.nil_append, List.set_cons_zero, List.set_cons_succ, List.size_toArray, List.all_cons, List.all_nil, List.drop_zero, List.drop_succ_cons, List.take_succ_cons, List.take_zero, List.mem_cons, Prod.mk.injEq, List.not_mem_nil, implies_true, List.getElem?_toArray, List.getElem?_cons_zero, List.getElem?_cons_succ, List.getElem?_nil, Option.getD_some, Option.getD_none, Nat.reduceEqDiff, reduceIte, Nat.reduceAdd, List.map_toArray, List.map_cons, List.map_nil, Bool.false_eq_true, Nat.reduceBEq, Option.map_some, Option.map_none, reduceCtorEq, al26, ap39_39, bd26, bs39_0, bs39_1, fa26_0, ld22, ld26, ln22, ln39, sn22, sl22, sn39, sl39, st26, l1Sign2_eq, h1, h2, h3, h4, ki, ko, wi, q11.rd 2 rfl, q11.rd 3 rfl]
        refine two_intro (fun u4 => ?_) (fun u4 => ?_)
        ·
          have hc : i < (rowsR sa da).length := by simpa using u4
          obtain ⟨a4, c4, ev1, hv1⟩ := RowsA.tk (k := i + 1) (q11.rowsF 1 rfl).1 hc (by omega)
          obtain ⟨a5, c5, ev2, hv2⟩ := IntRow.tl a.os (by omega)
          try simp -implicitDefEqProofs only [kk0, kk1, kk2, kk3, rW_block, ↓two_true, ↓two_false, rW_cond, rO_guard, mkv, aggAt, Nat.reduceLeDiff, Nat.reduceSub, Nat.reduceMul, cond_true, cond_false, Option.bind_some, List.length_append, List.length_cons, List.length_nil, List.append_assoc, List.cons_append, List.nil_append, List.set_cons_zero, List.set_cons_succ, List.size_toArray, List.all_cons, List.all_nil, List.drop_zero, List.drop_succ_cons, List.take_succ_cons, List.take_zero, List.mem_cons, Prod.mk.injEq, List.not_mem_nil, implies_true, List.getElem?_toArray, List.getElem?_cons_zero, List.getElem?_cons_succ, List.getElem?_nil, Option.getD_some, Option.getD_none, Nat.reduceEqDiff, reduceIte, Nat.reduceAdd, List.map_toArray, List.map_cons, List.map_nil, Bool.false_eq_true, Nat.reduceBEq, Option.map_some, Option.map_none, reduceCtorEq, al26, ap39_39, bd26, bs39_0, bs39_1, fa26_0, ld22, ld26, ln22, ln39, sn22, sl22, sn39, sl39, st26, l1Sign2_eq, ev1, ev2, h1, h2, h3, h4, ki, ko, wi, q11.rd 2 rfl, q11.rd 3 rfl]
          refine (l7Reduce_ok (s := s) hv1 (hv2.ext q11.ext) (by rw [List.length_take]; omega) (by omega) (fun r hr => ⟨by have := (m3 r (List.mem_of_mem_take hr)).2.1; omega, by have := (m3 r (List.mem_of_mem_take hr)).2.2.2.1; omega⟩) (fun h => absurd h (by rw [List.length_take]; omega)) ).mono ?_
          rintro _ H11 ⟨p3, p4, rfl, g2⟩
          obtain ⟨R1, hR1⟩ : ∃ R, redR s ((rowsR sa da).take (i + 1)) sa.tail = R := ⟨_, rfl⟩
          rw [hR1] at g2 ⊢
          have q12 := q11.join g2
          simp only [List.map_cons, List.map_nil, List.cons_append, List.nil_append] at q12
          obtain ⟨a6, c6, rfl⟩ := (q12.own 0 rfl).isSlice
          obtain ⟨a7, c7, rfl⟩ := (q12.own 1 rfl).isSlice
          have hred : redL s ((rowsR sa da).take (i + 1)) = R1 := by rw [← hR1]; unfold redR; rw [if_neg (by rw [List.length_take]; omega)]
          simp -implicitDefEqProofs only [kk0, kk1, kk2, kk3, rW_block, ↓two_true, ↓two_false, rW_cond, rO_guard, mkv, aggAt, Nat.reduceLeDiff, Nat.reduceSub, Nat.reduceMul, cond_true, cond_false, Option.bind_some, List.length_append, List.length_cons, List.length_nil, List.append_assoc, List.cons_append, List.nil_append, List.set_cons_zero, List.set_cons_succ, List.size_toArray, List.all_cons, List.all_nil, List.drop_zero, List.drop_succ_cons, List.take_succ_cons, List.take_zero, List.mem_cons, Prod.mk.injEq, List.not_mem_nil, implies_true, List.getElem?_toArray, List.getElem?_cons_zero, List.getElem?_cons_succ, List.getElem?_nil, Option.getD_some, Option.getD_none, Nat.reduceEqDiff, reduceIte, Nat.reduceAdd, List.map_toArray, List.map_cons, List.map_nil, Bool.false_eq_true, Nat.reduceBEq, Option.map_some, Option.map_none, reduceCtorEq, al26, ap39_39, bd26, bs39_0, bs39_1, fa26_0, ld22, ld26, ln22, ln39, sn22, sl22, sn39, sl39, st26, l1Sign2_eq, ev1, ev2, h1, h2, h3, h4, ki, ko, wi, q12.rd 4 rfl, q12.rd 5 rfl, q11.rd 2 rfl, q11.rd 3 rfl]
          refine st_box q12 fun H12 q13 => ?_
          simp -implicitDefEqProofs only [kk0, kk1, kk2, kk3, rW_block, ↓two_true, ↓two_false, rW_cond, rO_guard, mkv, aggAt, Nat.reduceLeDiff, Nat.reduceSub, Nat.reduceMul, cond_true, cond_false, Option.bind_some, List.length_append, List.length_cons, List.length_nil, List.append_assoc, List.cons_append, List.nil_append, List.set_cons_zero, List.set_cons_succ, List.size_toArray, List.all_cons, List.all_nil, List.drop_zero, List.drop_succ_cons, List.take_succ_cons, List.take_zero, List.mem_cons, Prod.mk.injEq, List.not_mem_nil, implies_true, List.getElem?_toArray, List.getElem?_cons_zero, List.getElem?_cons_succ, List.getElem?_nil, Option.getD_some, Option.getD_none, Nat.reduceEqDiff, reduceIte, Nat.reduceAdd, List.map_toArray, List.map_cons, List.map_nil, Bool.false_eq_true, Nat.reduceBEq, Option.map_some, Option.map_none, reduceCtorEq, al26, ap39_39, bd26, bs39_0, bs39_1, fa26_0, ld22, ld26, ln22, ln39, sn22, sl22, sn39, sl39, st26, l1Sign2_eq, ev1, ev2, h1, h2, h3, h4, ki, ko, wi, q13.rd 0 rfl, q13.rd 5 rfl, q13.rd 6 rfl, q11.rd 2 rfl, q11.rd 3 rfl, q12.rd 4 rfl, q12.rd 5 rfl]
          refine st_set q13 0 rfl fun H13 q14 => ?_
          simp only [List.set_cons_zero, List.set_cons_succ] at q14
          simp -implicitDefEqProofs only [kk0, kk1, kk2, kk3, rW_block, ↓two_true, ↓two_false, rW_cond, rO_guard, mkv, aggAt, Nat.reduceLeDiff, Nat.reduceSub, Nat.reduceMul, cond_true, cond_false, Option.bind_some, List.length_append, List.length_cons, List.length_nil, List.append_assoc, List.cons_append, List.nil_append, List.set_cons_zero, List.set_cons_succ, List.size_toArray, List.all_cons, List.all_nil, List.drop_zero, List.drop_succ_cons, List.take_succ_cons, List.take_zero, List.mem_cons, Prod.mk.injEq, List.not_mem_nil, implies_true, List.getElem?_toArray, List.getElem?_cons_zero, List.getElem?_cons_succ, List.getElem?_nil, Option.getD_some, Option.getD_none, Nat.reduceEqDiff, reduceIte, Nat.reduceAdd, List.map_toArray, List.map_cons, List.map_nil, Bool.false_eq_true, Nat.reduceBEq, Option.map_some, Option.map_none, reduceCtorEq, al26, ap39_39, bd26, bs39_0, bs39_1, fa26_0, ld22, ld26, ln22, ln39, sn22, sl22, sn39, sl39, st26, l1Sign2_eq, ev1, ev2, h1, h2, h3, h4, ki, ko, wi, q14.rd 0 rfl, q14.rd 5 rfl, q14.rd 6 rfl, q11.rd 2 rfl, q11.rd 3 rfl, q12.rd 4 rfl, q12.rd 5 rfl, q13.rd 0 rfl, q13.rd 5 rfl, q13.rd 6 rfl]
          try simp -implicitDefEqProofs only [kk0, kk1, kk2, kk3, rW_block, ↓two_true, ↓two_false, rW_cond, rO_guard, mkv, aggAt, Nat.reduceLeDiff, Nat.reduceSub, Nat.reduceMul, cond_true, cond_false, Option.bind_some, List.length_append, List.length_cons, List.length_nil, List.append_assoc, List.cons_append, List.nil_append, List.set_cons_zero, List.set_cons_succ, List.size_toArray, List.all_cons, List.all_nil, List.drop_zero, List.drop_succ_cons, List.take_succ_cons, List.take_zero, List.mem_cons, Prod.mk.injEq, List.not_mem_nil, implies_true, List.getElem?_toArray, List.getElem?_cons_zero, List.getElem?_cons_succ, List.getElem?_nil, Option.getD_some, Option.getD_none, Nat.reduceEqDiff, reduceIte, Nat.reduceAdd, List.map_toArray, List.map_cons, List.map_nil, Bool.false_eq_true, Nat.reduceBEq, Option.map_some, Option.map_none, reduceCtorEq, al26, ap39_39, bd26, bs39_0, bs39_1, fa26_0, ld22, ld26, ln22, ln39, sn22, sl22, sn39, sl39, st26, l1Sign2_eq, ev1, ev2, h1, h2, h3, h4, ki, ko, wi, q14.rd 0 rfl, q14.rd 5 rfl, q14.rd 6 rfl]
          refine two_intro (fun u5 => ?_) (fun u5 => ?_)
          ·
            have v4 : (rowsR sa da).length ≠ 0 := by omega
            have hne : R1.2 ≠ 0 := by simpa using u5
            have hC := scanC_at (s := s) hc hz (by rw [hred]; exact hne)
            rw [hred] at hC
            try simp -implicitDefEqProofs only [kk0, kk1, kk2, kk3, rW_block, ↓two_true, ↓two_false, rW_cond, rO_guard, mkv, aggAt, Nat.reduceLeDiff, Nat.reduceSub, Nat.reduceMul, cond_true, cond_false, Option.bind_some, List.length_append, List.length_cons, List.length_nil, List.append_assoc, List.cons_append, List.nil_append, List.set_cons_zero, List.set_cons_succ, List.size_toArray, List.all_cons, List.all_nil, List.drop_zero, List.drop_succ_cons, List.take_succ_cons, List.take_zero, List.mem_cons, Prod.mk.injEq, List.not_mem_nil, implies_true, List.getElem?_toArray, List.getElem?_cons_zero, List.getElem?_cons_succ, List.getElem?_nil, Option.getD_some, Option.getD_none, Nat.reduceEqDiff, reduceIte, Nat.reduceAdd, List.map_toArray, List.map_cons, List.map_nil, Bool.false_eq_true, Nat.reduceBEq, Option.map_some, Option.map_none, reduceCtorEq, al26, ap39_39, bd26, bs39_0, bs39_1, fa26_0, ld22, ld26, ln22, ln39, sn22, sl22, sn39, sl39, st26, l1Sign2_eq, ev1, ev2, h1, h2, h3, h4, ki, ko, wi, q14.rd 0 rfl, q14.rd 5 rfl, q14.rd 6 rfl]
            refine st_set q14 5 rfl fun H14 q15 => ?_
            simp only [List.set_cons_zero, List.set_cons_succ] at q15
            simp -implicitDefEqProofs only [kk0, kk1, kk2, kk3, rW_block, ↓two_true, ↓two_false, rW_cond, rO_guard, mkv, aggAt, Nat.reduceLeDiff, Nat.reduceSub, Nat.reduceMul, cond_true, cond_false, Option.bind_some, List.length_append, List.length_cons, List.length_nil, List.append_assoc, List.cons_append, List.nil_append, List.set_cons_zero, List.set_cons_succ, List.size_toArray, List.all_cons, List.all_nil, List.drop_zero, List.drop_succ_cons, List.take_succ_cons, List.take_zero, List.mem_cons, Prod.mk.injEq, List.not_mem_nil, implies_true, List.getElem?_toArray, List.getElem?_cons_zero, List.getElem?_cons_succ, List.getElem?_nil, Option.getD_some, Option.getD_none, Nat.reduceEqDiff, reduceIte, Nat.reduceAdd, List.map_toArray, List.map_cons, List.map_nil, Bool.false_eq_true, Nat.reduceBEq, Option.map_some, Option.map_none, reduceCtorEq, al26, ap39_39, bd26, bs39_0, bs39_1, fa26_0, ld22, ld26, ln22, ln39, sn22, sl22, sn39, sl39, st26, l1Sign2_eq, ev1, ev2, h1, h2, h3, h4, ki, ko, wi, q15.rd 0 rfl, q15.rd 5 rfl, q15.rd 6 rfl]
            -- end4
            exact q15.err (by unfold scanR; rw [v1, v2, if_pos (by rfl), if_neg v3, if_neg v4, hC]; exact if_neg hne)
          ·
            have hz1 : R1.2 = 0 := by simpa using u5
            have hz2 : ∀ j, j < i + 1 → (redL s ((rowsR sa da).take (j + 1))).2 = 0 := fun j hj => by
              rcases Nat.lt_or_ge j i with h | h
              · exact hz j h
              · have e : j = i := (by omega)
                rw [e, hred]; exact hz1
            have hrl : R1.1.1.length ≤ 3 ∧ R1.1.2.length ≤ 300 := by
              obtain ⟨m, _, e2, e3⟩ := scan_rows (s := s) v1 v3 (k := i + 1) hc hz2
              have := e3 R1.1 (by rw [scanL_step, hred]; simp)
              omega
            try simp -implicitDefEqProofs only [kk0, kk1, kk2, kk3, rW_block, ↓two_true, ↓two_false, rW_cond, rO_guard, mkv, aggAt, Nat.reduceLeDiff, Nat.reduceSub, Nat.reduceMul, cond_true, cond_false, Option.bind_some, List.length_append, List.length_cons, List.length_nil, List.append_assoc, List.cons_append, List.nil_append, List.set_cons_zero, List.set_cons_succ, List.size_toArray, List.all_cons, List.all_nil, List.drop_zero, List.drop_succ_cons, List.take_succ_cons, List.take_zero, List.mem_cons, Prod.mk.injEq, List.not_mem_nil, implies_true, List.getElem?_toArray, List.getElem?_cons_zero, List.getElem?_cons_succ, List.getElem?_nil, Option.getD_some, Option.getD_none, Nat.reduceEqDiff, reduceIte, Nat.reduceAdd, List.map_toArray, List.map_cons, List.map_nil, Bool.false_eq_true, Nat.reduceBEq, Option.map_some, Option.map_none, reduceCtorEq, al26, ap39_39, bd26, bs39_0, bs39_1, fa26_0, ld22, ld26, ln22, ln39, sn22, sl22, sn39, sl39, st26, l1Sign2_eq, ev1, ev2, h1, h2, h3, h4, ki, ko, wi, q14.rd 0 rfl, q14.rd 5 rfl, q14.rd 6 rfl]
            refine st_cells q14 fun H15 q16 => ?_
            simp -implicitDefEqProofs only [kk0, kk1, kk2, kk3, rW_block, ↓two_true, ↓two_false, rW_cond, rO_guard, mkv, aggAt, Nat.reduceLeDiff, Nat.reduceSub, Nat.reduceMul, cond_true, cond_false, Option.bind_some, List.length_append, List.length_cons, List.length_nil, List.append_assoc, List.cons_append, List.nil_append, List.set_cons_zero, List.set_cons_succ, List.size_toArray, List.all_cons, List.all_nil, List.drop_zero, List.drop_succ_cons, List.take_succ_cons, List.take_zero, List.mem_cons, Prod.mk.injEq, List.not_mem_nil, implies_true, List.getElem?_toArray, List.getElem?_cons_zero, List.getElem?_cons_succ, List.getElem?_nil, Option.getD_some, Option.getD_none, Nat.reduceEqDiff, reduceIte, Nat.reduceAdd, List.map_toArray, List.map_cons, List.map_nil, Bool.false_eq_true, Nat.reduceBEq, Option.map_some, Option.map_none, reduceCtorEq, al26, ap39_39, bd26, bs39_0, bs39_1, fa26_0, ld22, ld26, ln22, ln39, sn22, sl22, sn39, sl39, st26, l1Sign2_eq, ev1, ev2, h1, h2, h3, h4, ki, ko, wi, q16.rd 0 rfl, q16.rd 1 rfl, q16.rd 6 rfl, q16.rd 7 rfl]
            have q17 := q16.fzr 2 rfl
            simp only [List.set_cons_zero, List.set_cons_succ] at q17
            have q18 := q17.fzr 3 rfl
            simp only [List.set_cons_zero, List.set_cons_succ] at q18
            refine st_app2 q18 4 0 2 3 rfl rfl rfl rfl (by omega) (by omega) (by omega) fun a8 c8 H16 ys2 q19 => ?_
            simp only [List.set_cons_zero, List.set_cons_succ] at q19
            simp -implicitDefEqProofs only [kk0, kk1, kk2, kk3, rW_block, ↓two_true, ↓two_false, rW_cond, rO_guard, mkv, aggAt, Nat.reduceLeDiff, Nat.reduceSub, Nat.reduceMul, cond_true, cond_false, Option.bind_some, List.length_append, List.length_cons, List.length_nil, List.append_assoc, List.cons_append, List.nil_append, List.set_cons_zero, List.set_cons_succ, List.size_toArray, List.all_cons, List.all_nil, List.drop_zero, List.drop_succ_cons, List.take_succ_cons, List.take_zero, List.mem_cons, Prod.mk.injEq, List.not_mem_nil, implies_true, List.getElem?_toArray, List.getElem?_cons_zero, List.getElem?_cons_succ, List.getElem?_nil, Option.getD_some, Option.getD_none, Nat.reduceEqDiff, reduceIte, Nat.reduceAdd, List.map_toArray, List.map_cons, List.map_nil, Bool.false_eq_true, Nat.reduceBEq, Option.map_some, Option.map_none, reduceCtorEq, al26, ap39_39, bd26, bs39_0, bs39_1, fa26_0, ld22, ld26, ln22, ln39, sn22, sl22, sn39, sl39, st26, l1Sign2_eq, ev1, ev2, h1, h2, h3, h4, ki, ko, wi, q19.rd 0 rfl, q19.rd 1 rfl, q19.rd 6 rfl, q19.rd 7 rfl]
            -- back loop1
            refine ⟨(i + 1, a8, c8, ys2), (by simp only; omega), ⟨rfl, rfl, rfl, rfl, trivial⟩, ⟨by first | rfl | simp, rfl, hc, hz2⟩, ?_⟩
            simp only [List.set_cons_zero, List.set_cons_succ, scanL_step, hred]
            exact q19.pick [4, 5, 6, 7] _ rfl (by decide)
        ·
          have hil : i = (rowsR sa da).length := Nat.le_antisymm hi (Nat.not_lt.1 (by simpa using u4))
          subst hil
          obtain ⟨a9, c9, ev3, hv3⟩ := IntRow.tl a.os (by omega)
          try simp -implicitDefEqProofs only [kk0, kk1, kk2, kk3, rW_block, ↓two_true, ↓two_false, rW_cond, rO_guard, mkv, aggAt, Nat.reduceLeDiff, Nat.reduceSub, Nat.reduceMul, cond_true, cond_false, Option.bind_some, List.length_append, List.length_cons, List.length_nil, List.append_assoc, List.cons_append, List.nil_append, List.set_cons_zero, List.set_cons_succ, List.size_toArray, List.all_cons, List.all_nil, List.drop_zero, List.drop_succ_cons, List.take_succ_cons, List.take_zero, List.mem_cons, Prod.mk.injEq, List.not_mem_nil, implies_true, List.getElem?_toArray, List.getElem?_cons_zero, List.getElem?_cons_succ, List.getElem?_nil, Option.getD_some, Option.getD_none, Nat.reduceEqDiff, reduceIte, Nat.reduceAdd, List.map_toArray, List.map_cons, List.map_nil, Bool.false_eq_true, Nat.reduceBEq, Option.map_some, Option.map_none, reduceCtorEq, al26, ap39_39, bd26, bs39_0, bs39_1, fa26_0, ld22, ld26, ln22, ln39, sn22, sl22, sn39, sl39, st26, l1Sign2_eq, ev3, h1, h2, h3, h4, ki, ko, wi, q11.rd 2 rfl, q11.rd 3 rfl]
          refine (l5Rows_ok (q11.rowsT 0 rfl).1 (hv3.ext q11.ext) (by rw [scanL_len]; omega) (by omega) (by have := scan_len (s := s) v1 v3 hz; omega) ).mono ?_
          rintro _ H17 ⟨p5, p6, rfl, g3⟩
          have q20 := q11.join g3
          simp only [List.map_cons, List.map_nil, List.cons_append, List.nil_append] at q20
          obtain ⟨a10, c10, rfl⟩ := (q20.own 0 rfl).isSlice
          obtain ⟨a11, c11, rfl⟩ := (q20.own 1 rfl).isSlice
          simp -implicitDefEqProofs only [kk0, kk1, kk2, kk3, rW_block, ↓two_true, ↓two_false, rW_cond, rO_guard, mkv, aggAt, Nat.reduceLeDiff, Nat.reduceSub, Nat.reduceMul, cond_true, cond_false, Option.bind_some, List.length_append, List.length_cons, List.length_nil, List.append_assoc, List.cons_append, List.nil_append, List.set_cons_zero, List.set_cons_succ, List.size_toArray, List.all_cons, List.all_nil, List.drop_zero, List.drop_succ_cons, List.take_succ_cons, List.take_zero, List.mem_cons, Prod.mk.injEq, List.not_mem_nil, implies_true, List.getElem?_toArray, List.getElem?_cons_zero, List.getElem?_cons_succ, List.getElem?_nil, Option.getD_some, Option.getD_none, Nat.reduceEqDiff, reduceIte, Nat.reduceAdd, List.map_toArray, List.map_cons, List.map_nil, Bool.false_eq_true, Nat.reduceBEq, Option.map_some, Option.map_none, reduceCtorEq, al26, ap39_39, bd26, bs39_0, bs39_1, fa26_0, ld22, ld26, ln22, ln39, sn22, sl22, sn39, sl39, st26, l1Sign2_eq, ev3, h1, h2, h3, h4, ki, ko, wi, q20.rd 4 rfl, q20.rd 5 rfl]
          refine st_set q20 4 rfl fun H18 q21 => ?_
          simp only [List.set_cons_zero, List.set_cons_succ] at q21
          simp -implicitDefEqProofs only [kk0, kk1, kk2, kk3, rW_block, ↓two_true, ↓two_false, rW_cond, rO_guard, mkv, aggAt, Nat.reduceLeDiff, Nat.reduceSub, Nat.reduceMul, cond_true, cond_false, Option.bind_some, List.length_append, List.length_cons, List.length_nil, List.append_assoc, List.cons_append, List.nil_append, List.set_cons_zero, List.set_cons_succ, List.size_toArray, List.all_cons, List.all_nil, List.drop_zero, List.drop_succ_cons, List.take_succ_cons, List.take_zero, List.mem_cons, Prod.mk.injEq, List.not_mem_nil, implies_true, List.getElem?_toArray, List.getElem?_cons_zero, List.getElem?_cons_succ, List.getElem?_nil, Option.getD_some, Option.getD_none, Nat.reduceEqDiff, reduceIte, Nat.reduceAdd, List.map_toArray, List.map_cons, List.map_nil, Bool.false_eq_true, Nat.reduceBEq, Option.map_some, Option.map_none, reduceCtorEq, al26, ap39_39, bd26, bs39_0, bs39_1, fa26_0, ld22, ld26, ln22, ln39, sn22, sl22, sn39, sl39, st26, l1Sign2_eq, ev3, h1, h2, h3, h4, ki, ko, wi, q21.rd 4 rfl, q21.rd 5 rfl]
          -- end5
          refine q21.ans 0 1 (by decide) rfl rfl ?_
          unfold scanR; rw [v1, v2, if_pos (by rfl), if_neg v3, scanC_no hz, scanL_len]
          by_cases v4 : (rowsR sa da).length = 0
          · obtain ⟨z1, z2⟩ := scan_zero v1 v3 v4
            rw [if_pos v4, v4]
            conv => lhs; rw [z1, z2]
            simp [scanL, flatD]
          · rw [if_neg v4, if_pos rfl]

theorem scanR_lim {s : Int} {sa da : List Int} : (scanR s sa da).1.1.length ≤ 1048576 ∧ (scanR s sa da).1.2.length ≤ 1048576 := by
  unfold scanR
  split
  · rename_i h
    simp only [Bool.and_eq_true] at h
    have h1 := arrOk_size h.1
    have h2 : sa.length ≤ 3 := (sizeI_ok (by omega)).1
    split
    · simp only; omega
    · rename_i v3
      split
      · simp only; omega
      · split
        · rename_i v4 hc
          refine ⟨by simp; omega, ?_⟩
          by_cases hz : ∀ j, j < (rowsR sa da).length → (redL s ((rowsR sa da).take (j + 1))).2 = 0
          · have := scan_len (s := s) h.1 v3 hz; simp only; omega
          · exfalso
            obtain ⟨j, hj⟩ := Classical.not_forall.1 hz
            obtain ⟨hj1, hj2⟩ := Classical.not_imp.1 hj
            have key : ∀ (k : Nat), (∃ j, j < k ∧ (redL s ((rowsR sa da).take (j + 1))).2 ≠ 0) → ∃ i, i < k ∧ (∀ j, j < i → (redL s ((rowsR sa da).take (j + 1))).2 = 0) ∧ (redL s ((rowsR sa da).take (i + 1))).2 ≠ 0 := by
              intro k
              induction k with
              | zero => rintro ⟨j, h, _⟩; omega
              | succ k ih =>
                intro ⟨j, h1, h2⟩
                by_cases h3 : ∃ j, j < k ∧ (redL s ((rowsR sa da).take (j + 1))).2 ≠ 0
                · obtain ⟨i, g1, g2⟩ := ih h3
                  exact ⟨i, by omega, g2⟩
                · have h4 : ∀ j, j < k → (redL s ((rowsR sa da).take (j + 1))).2 = 0 := fun j hj => Classical.byContradiction fun hn => h3 ⟨j, hj, hn⟩
                  have : j = k := by
                    rcases Nat.lt_or_ge j k with h5 | h5
                    · exact absurd (h4 j h5) h2
                    · omega
                  subst this
                  exact ⟨j, by omega, h4, h2⟩
            obtain ⟨i, g1, g2, g3⟩ := key _ ⟨j, hj1, hj2⟩
            have := scanC_at (s := s) g1 g2 g3
            rw [this] at hc
            exact g3 hc
        · simp
  · simp

theorem implScan_u {H : AH} {s0 : Int} {p1 q1 : Value} {sh1 dt1 : List Int} {R : (List Int × List Int) × Int} (hR : scanR s0 sh1 dt1 = R) (h1 : LI.ok H (.rd (arrL p1 q1) (arrV sh1 dt1))) (l1 : sh1.length + dt1.length ≤ 1048576) :
    CallsA Try.prog 15 #[.int .i64 s0, .agg #[p1, q1]] H fun r H' => (∃ a c b d, r = .tuple #[.agg #[.slice a R.1.1.length c, .slice b R.1.2.length d], .int .i64 R.2] ∧ NewL H H' (arrL (.slice a R.1.1.length c) (.slice b R.1.2.length d)) (arrV R.1.1 R.1.2)) ∧ ∃ K, H' = H ++ K := by
  subst hR
  obtain ⟨e1, f1, _⟩ := LI.arr h1
  exact (implScan_ok ⟨e1, f1, by omega, by omega⟩).mono fun r H' h => h.ares.newL scanR_lim

theorem specScan_u {H : AH} {s0 : Int} {p1 q1 : Value} {sh1 dt1 : List Int} {R : (List Int × List Int) × Int} (hR : scanR s0 sh1 dt1 = R) (h1 : LI.ok H (.rd (arrL p1 q1) (arrV sh1 dt1))) (l1 : sh1.length + dt1.length ≤ 1048576) :
    CallsA Try.prog 13 #[.int .i64 s0, .agg #[p1, q1]] H fun r H' => (∃ a c b d, r = .tuple #[.agg #[.slice a R.1.1.length c, .slice b R.1.2.length d], .int .i64 R.2] ∧ NewL H H' (arrL (.slice a R.1.1.length c) (.slice b R.1.2.length d)) (arrV R.1.1 R.1.2)) ∧ ∃ K, H' = H ++ K := by
  subst hR
  obtain ⟨e1, f1, _⟩ := LI.arr h1
  exact (specScan_ok ⟨e1, f1, by omega, by omega⟩).mono fun r H' h => h.ares.newL scanR_lim

set_option maxHeartbeats 4000000 in
theorem law3 : LawA Try.prog 3 [3, 24] := by
  intro H vs hro h
  obtain ⟨v0, vs0, rfl, hv0, g0⟩ := h.cons
  obtain ⟨v1, vs1, rfl, hv1, g1⟩ := g0.cons
  obtain rfl := g1.nil
  obtain ⟨k0, us0, hr0, rfl⟩ := hv0
  obtain ⟨s0, rfl, _⟩ := hr0.int Try.underlying3
  obtain ⟨k1, us1, hr1, rfl⟩ := hv1
  obtain ⟨p1, q1, sh1, dt1, rfl, oa1, ob1, na1, nb1, _⟩ := hr1.arr
  simp only [mkV, Try.underlying3, Try.underlying24]
  obtain ⟨a1a, a1c, rfl, _⟩ := oa1.op
  obtain ⟨a1b, a1d, rfl, _⟩ := ob1.op
  refine w3 ?_
  unfold k3
  simp -implicitDefEqProofs only [kk0, kk1, kk2, kk3, rW_block, ↓two_true, ↓two_false, rW_cond, rO_guard, oS_some, oM_some, mkv, aggAt, Nat.reduceLeDiff, Nat.reduceSub, Nat.reduceMul, cond_true, cond_false, Option.bind_some, List.length_append, List.length_cons, List.length_nil, List.append_assoc, List.cons_append, List.nil_append, List.set_cons_zero, List.set_cons_succ, List.size_toArray, List.all_cons, List.all_nil, List.drop_zero, List.drop_succ_cons, List.take_succ_cons, List.take_zero, List.mem_cons, Prod.mk.injEq, List.not_mem_nil, implies_true, List.getElem?_toArray, List.getElem?_cons_zero, List.getElem?_cons_succ, List.getElem?_nil, Option.getD_some, Option.getD_none, Nat.reduceEqDiff, reduceIte, Nat.reduceAdd, List.map_toArray, List.map_cons, List.map_nil, Bool.false_eq_true, Nat.reduceBEq, Option.map_some, Option.map_none, reduceCtorEq, al26, ld24, ld26, st26]
  have bx1 : (H ++ [⟨[.slice a1a sh1.length a1c, .slice a1b dt1.length a1d], .own⟩] : AH)[H.length]? = some ⟨[.slice a1a sh1.length a1c, .slice a1b dt1.length a1d], .own⟩ := by rw [gt0]; rfl
  have ia1 := oa1.mono (L := [⟨[.slice a1a sh1.length a1c, .slice a1b dt1.length a1d], .own⟩])
  have ib1 := ob1.mono (L := [⟨[.slice a1a sh1.length a1c, .slice a1b dt1.length a1d], .own⟩])
  have L0 : (H ++ [⟨[.slice a1a sh1.length a1c, .slice a1b dt1.length a1d], .own⟩] : AH).length = H.length + 1 := by simp
  generalize hH0 : (H ++ [⟨[.slice a1a sh1.length a1c, .slice a1b dt1.length a1d], .own⟩] : AH) = H0 at *
  refine (szArray_u ia1 ib1 na1 nb1 (by omega)).mono ?_
  rintro _ H1 ⟨rfl, hK1⟩
  have L1 := ext_len hK1
  have ia1 := ia1.ext hK1
  have ib1 := ib1.ext hK1
  have bx1 := get_ext bx1 hK1
  simp -implicitDefEqProofs only [kk0, kk1, kk2, kk3, rW_block, ↓two_true, ↓two_false, rW_cond, rO_guard, oS_some, oM_some, mkv, aggAt, Nat.reduceLeDiff, Nat.reduceSub, Nat.reduceMul, cond_true, cond_false, Option.bind_some, List.length_append, List.length_cons, List.length_nil, List.append_assoc, List.cons_append, List.nil_append, List.set_cons_zero, List.set_cons_succ, List.size_toArray, List.all_cons, List.all_nil, List.drop_zero, List.drop_succ_cons, List.take_succ_cons, List.take_zero, List.mem_cons, Prod.mk.injEq, List.not_mem_nil, implies_true, List.getElem?_toArray, List.getElem?_cons_zero, List.getElem?_cons_succ, List.getElem?_nil, Option.getD_some, Option.getD_none, Nat.reduceEqDiff, reduceIte, Nat.reduceAdd, List.map_toArray, List.map_cons, List.map_nil, Bool.false_eq_true, Nat.reduceBEq, Option.map_some, Option.map_none, reduceCtorEq, al26, ld24, ld26, st26, rd_own bx1]
  refine two_intro (fun h => trivial) (fun h => ?_)
  obtain ⟨hsv1, hsz1⟩ := szI_pos (by simpa using h)
  clear h
  have hs1 : sh1.length + dt1.length ≤ 1048576 := by omega
  have f_a1 := arr_rd ia1 ib1 hs1
  have r_a1 : LI.rg 0 H.length (.rd (arrL (.slice a1a (sh1).length a1c) (.slice a1b (dt1).length a1d)) (arrV (sh1) (dt1))) := fun b hb => ⟨Nat.zero_le _, (arr_rd oa1 ob1 hs1).lt b hb⟩
  have b_a1_H1 : LI.ok H1 (.blk H.length ⟨[.slice a1a sh1.length a1c, .slice a1b dt1.length a1d], .own⟩) := bx1
  have rb_a1 : LI.rg H.length (H.length + 1) (.blk H.length ⟨[.slice a1a sh1.length a1c, .slice a1b dt1.length a1d], .own⟩) := fun b hb => by cases hb; omega
  clear ia1 ib1 bx1 oa1 ob1
  obtain ⟨R, hR⟩ : ∃ R, scanR s0 sh1 dt1 = R := ⟨_, rfl⟩
  have hRl : R.1.1.length ≤ 1048576 ∧ R.1.2.length ≤ 1048576 := by rw [← hR]; exact scanR_lim
  refine (toArray_th f_a1 hs1).mono ?_
  rintro _ H2 ⟨⟨t1a, t1c, t1b, t1d, rfl, nl⟩, hK2⟩
  have L2 := ext_len hK2
  have f_a1 := f_a1.ext hK2
  have b_a1_H2 := (b_a1_H1).ext hK2
  have f_t1 := (nl).ok.1
  have r_t1 := (nl).ok.2
  simp -implicitDefEqProofs only [kk0, kk1, kk2, kk3, rW_block, ↓two_true, ↓two_false, rW_cond, rO_guard, oS_some, oM_some, mkv, aggAt, Nat.reduceLeDiff, Nat.reduceSub, Nat.reduceMul, cond_true, cond_false, Option.bind_some, List.length_append, List.length_cons, List.length_nil, List.append_assoc, List.cons_append, List.nil_append, List.set_cons_zero, List.set_cons_succ, List.size_toArray, List.all_cons, List.all_nil, List.drop_zero, List.drop_succ_cons, List.take_succ_cons, List.take_zero, List.mem_cons, Prod.mk.injEq, List.not_mem_nil, implies_true, List.getElem?_toArray, List.getElem?_cons_zero, List.getElem?_cons_succ, List.getElem?_nil, Option.getD_some, Option.getD_none, Nat.reduceEqDiff, reduceIte, Nat.reduceAdd, List.map_toArray, List.map_cons, List.map_nil, Bool.false_eq_true, Nat.reduceBEq, Option.map_some, Option.map_none, reduceCtorEq, al26, ld24, ld26, st26, rd_own b_a1_H1, rd_own b_a1_H2]
  refine (specScan_u hR f_t1.rd (by omega)).mono ?_
  rintro _ H3 ⟨⟨wa, wc, wb, wd, rfl, nl⟩, hK3⟩
  have L3 := ext_len hK3
  have f_a1 := f_a1.ext hK3
  have f_t1 := f_t1.ext hK3
  have b_a1_H3 := (b_a1_H2).ext hK3
  have f_w := (nl).ok.1
  have r_w := (nl).ok.2
  simp -implicitDefEqProofs only [kk0, kk1, kk2, kk3, rW_block, ↓two_true, ↓two_false, rW_cond, rO_guard, oS_some, oM_some, mkv, aggAt, Nat.reduceLeDiff, Nat.reduceSub, Nat.reduceMul, cond_true, cond_false, Option.bind_some, List.length_append, List.length_cons, List.length_nil, List.append_assoc, List.cons_append, List.nil_append, List.set_cons_zero, List.set_cons_succ, List.size_toArray, List.all_cons, List.all_nil, List.drop_zero, List.drop_succ_cons, List.take_succ_cons, List.take_zero, List.mem_cons, Prod.mk.injEq, List.not_mem_nil, implies_true, List.getElem?_toArray, List.getElem?_cons_zero, List.getElem?_cons_succ, List.getElem?_nil, Option.getD_some, Option.getD_none, Nat.reduceEqDiff, reduceIte, Nat.reduceAdd, List.map_toArray, List.map_cons, List.map_nil, Bool.false_eq_true, Nat.reduceBEq, Option.map_some, Option.map_none, reduceCtorEq, al26, ld24, ld26, st26, rd_own b_a1_H1, rd_own b_a1_H2, rd_own b_a1_H3]
  have b_w_H4 := LI.ok.box (H := H3) (cs := [.slice wa R.1.1.length wc, .slice wb R.1.2.length wd])
  have L4 : (H3 ++ [⟨[.slice wa R.1.1.length wc, .slice wb R.1.2.length wd], .own⟩] : AH).length = H3.length + 1 := by simp
  have rb_w : LI.rg H3.length (H3.length + 1) (.blk H3.length ⟨[.slice wa R.1.1.length wc, .slice wb R.1.2.length wd], .own⟩) := fun b hb => by cases hb; omega
  have hX4 : ∃ K, (H3 ++ [⟨[.slice wa R.1.1.length wc, .slice wb R.1.2.length wd], .own⟩] : AH) = H3 ++ K := ⟨_, rfl⟩
  have f_a1 := f_a1.ext hX4
  have f_w := f_w.ext hX4
  have b_a1_H4 := (b_a1_H3).ext hX4
  clear hX4
  generalize (H3 ++ [⟨[.slice wa R.1.1.length wc, .slice wb R.1.2.length wd], .own⟩] : AH) = H4 at *
  try simp -implicitDefEqProofs only [kk0, kk1, kk2, kk3, rW_block, ↓two_true, ↓two_false, rW_cond, rO_guard, oS_some, oM_some, mkv, aggAt, Nat.reduceLeDiff, Nat.reduceSub, Nat.reduceMul, cond_true, cond_false, Option.bind_some, List.length_append, List.length_cons, List.length_nil, List.append_assoc, List.cons_append, List.nil_append, List.set_cons_zero, List.set_cons_succ, List.size_toArray, List.all_cons, List.all_nil, List.drop_zero, List.drop_succ_cons, List.take_succ_cons, List.take_zero, List.mem_cons, Prod.mk.injEq, List.not_mem_nil, implies_true, List.getElem?_toArray, List.getElem?_cons_zero, List.getElem?_cons_succ, List.getElem?_nil, Option.getD_some, Option.getD_none, Nat.reduceEqDiff, reduceIte, Nat.reduceAdd, List.map_toArray, List.map_cons, List.map_nil, Bool.false_eq_true, Nat.reduceBEq, Option.map_some, Option.map_none, reduceCtorEq, al26, ld24, ld26, st26, rd_own b_a1_H1, rd_own b_a1_H2, rd_own b_a1_H3, rd_own b_a1_H4, rd_own b_w_H4]
  refine (toArray_th f_a1 hs1).mono ?_
  rintro _ H5 ⟨⟨x1a, x1c, x1b, x1d, rfl, nl⟩, hK5⟩
  have L5 := ext_len hK5
  have f_a1 := f_a1.ext hK5
  have f_w := f_w.ext hK5
  have b_a1_H5 := (b_a1_H4).ext hK5
  have b_w_H5 := (b_w_H4).ext hK5
  have f_x1 := (nl).ok.1
  have r_x1 := (nl).ok.2
  simp -implicitDefEqProofs only [kk0, kk1, kk2, kk3, rW_block, ↓two_true, ↓two_false, rW_cond, rO_guard, oS_some, oM_some, mkv, aggAt, Nat.reduceLeDiff, Nat.reduceSub, Nat.reduceMul, cond_true, cond_false, Option.bind_some, List.length_append, List.length_cons, List.length_nil, List.append_assoc, List.cons_append, List.nil_append, List.set_cons_zero, List.set_cons_succ, List.size_toArray, List.all_cons, List.all_nil, List.drop_zero, List.drop_succ_cons, List.take_succ_cons, List.take_zero, List.mem_cons, Prod.mk.injEq, List.not_mem_nil, implies_true, List.getElem?_toArray, List.getElem?_cons_zero, List.getElem?_cons_succ, List.getElem?_nil, Option.getD_some, Option.getD_none, Nat.reduceEqDiff, reduceIte, Nat.reduceAdd, List.map_toArray, List.map_cons, List.map_nil, Bool.false_eq_true, Nat.reduceBEq, Option.map_some, Option.map_none, reduceCtorEq, al26, ld24, ld26, st26, rd_own b_a1_H1, rd_own b_a1_H2, rd_own b_a1_H3, rd_own b_a1_H4, rd_own b_a1_H5, rd_own b_w_H4, rd_own b_w_H5]
  have b_x1_H6 := LI.ok.box (H := H5) (cs := [.slice x1a sh1.length x1c, .slice x1b dt1.length x1d])
  have L6 : (H5 ++ [⟨[.slice x1a sh1.length x1c, .slice x1b dt1.length x1d], .own⟩] : AH).length = H5.length + 1 := by simp
  have rb_x1 : LI.rg H5.length (H5.length + 1) (.blk H5.length ⟨[.slice x1a sh1.length x1c, .slice x1b dt1.length x1d], .own⟩) := fun b hb => by cases hb; omega
  have hX6 : ∃ K, (H5 ++ [⟨[.slice x1a sh1.length x1c, .slice x1b dt1.length x1d], .own⟩] : AH) = H5 ++ K := ⟨_, rfl⟩
  have f_a1 := f_a1.ext hX6
  have f_w := f_w.ext hX6
  have f_x1 := f_x1.ext hX6
  have b_a1_H6 := (b_a1_H5).ext hX6
  have b_w_H6 := (b_w_H5).ext hX6
  clear hX6
  generalize (H5 ++ [⟨[.slice x1a sh1.length x1c, .slice x1b dt1.length x1d], .own⟩] : AH) = H6 at *
  try simp -implicitDefEqProofs only [kk0, kk1, kk2, kk3, rW_block, ↓two_true, ↓two_false, rW_cond, rO_guard, oS_some, oM_some, mkv, aggAt, Nat.reduceLeDiff, Nat.reduceSub, Nat.reduceMul, cond_true, cond_false, Option.bind_some, List.length_append, List.length_cons, List.length_nil, List.append_assoc, List.cons_append, List.nil_append, List.set_cons_zero, List.set_cons_succ, List.size_toArray, List.all_cons, List.all_nil, List.drop_zero, List.drop_succ_cons, List.take_succ_cons, List.take_zero, List.mem_cons, Prod.mk.injEq, List.not_mem_nil, implies_true, List.getElem?_toArray, List.getElem?_cons_zero, List.getElem?_cons_succ, List.getElem?_nil, Option.getD_some, Option.getD_none, Nat.reduceEqDiff, reduceIte, Nat.reduceAdd, List.map_toArray, List.map_cons, List.map_nil, Bool.false_eq_true, Nat.reduceBEq, Option.map_some, Option.map_none, reduceCtorEq, al26, ld24, ld26, st26, rd_own b_a1_H2, rd_own b_a1_H3, rd_own b_a1_H4, rd_own b_a1_H5, rd_own b_a1_H6, rd_own b_w_H4, rd_own b_w_H5, rd_own b_w_H6, rd_own b_x1_H6]
  refine (implScan_u hR f_x1.rd (by omega)).mono ?_
  rintro _ H7 ⟨⟨ga, gc, gb, gd, rfl, nl⟩, hK7⟩
  have L7 := ext_len hK7
  have f_a1 := f_a1.ext hK7
  have f_w := f_w.ext hK7
  have f_x1 := f_x1.ext hK7
  have b_a1_H7 := (b_a1_H6).ext hK7
  have b_w_H7 := (b_w_H6).ext hK7
  have b_x1_H7 := (b_x1_H6).ext hK7
  have f_g := (nl).ok.1
  have r_g := (nl).ok.2
  simp -implicitDefEqProofs only [kk0, kk1, kk2, kk3, rW_block, ↓two_true, ↓two_false, rW_cond, rO_guard, oS_some, oM_some, mkv, aggAt, Nat.reduceLeDiff, Nat.reduceSub, Nat.reduceMul, cond_true, cond_false, Option.bind_some, List.length_append, List.length_cons, List.length_nil, List.append_assoc, List.cons_append, List.nil_append, List.set_cons_zero, List.set_cons_succ, List.size_toArray, List.all_cons, List.all_nil, List.drop_zero, List.drop_succ_cons, List.take_succ_cons, List.take_zero, List.mem_cons, Prod.mk.injEq, List.not_mem_nil, implies_true, List.getElem?_toArray, List.getElem?_cons_zero, List.getElem?_cons_succ, List.getElem?_nil, Option.getD_some, Option.getD_none, Nat.reduceEqDiff, reduceIte, Nat.reduceAdd, List.map_toArray, List.map_cons, List.map_nil, Bool.false_eq_true, Nat.reduceBEq, Option.map_some, Option.map_none, reduceCtorEq, al26, ld24, ld26, st26, rd_own b_a1_H3, rd_own b_a1_H4, rd_own b_a1_H5, rd_own b_a1_H6, rd_own b_a1_H7, rd_own b_w_H4, rd_own b_w_H5, rd_own b_w_H6, rd_own b_w_H7, rd_own b_x1_H6, rd_own b_x1_H7]
  have b_g_H8 := LI.ok.box (H := H7) (cs := [.slice ga R.1.1.length gc, .slice gb R.1.2.length gd])
  have L8 : (H7 ++ [⟨[.slice ga R.1.1.length gc, .slice gb R.1.2.length gd], .own⟩] : AH).length = H7.length + 1 := by simp
  have rb_g : LI.rg H7.length (H7.length + 1) (.blk H7.length ⟨[.slice ga R.1.1.length gc, .slice gb R.1.2.length gd], .own⟩) := fun b hb => by cases hb; omega
  have hX8 : ∃ K, (H7 ++ [⟨[.slice ga R.1.1.length gc, .slice gb R.1.2.length gd], .own⟩] : AH) = H7 ++ K := ⟨_, rfl⟩
  have f_a1 := f_a1.ext hX8
  have f_w := f_w.ext hX8
  have f_x1 := f_x1.ext hX8
  have f_g := f_g.ext hX8
  have b_a1_H8 := (b_a1_H7).ext hX8
  have b_w_H8 := (b_w_H7).ext hX8
  have b_x1_H8 := (b_x1_H7).ext hX8
  clear hX8
  generalize (H7 ++ [⟨[.slice ga R.1.1.length gc, .slice gb R.1.2.length gd], .own⟩] : AH) = H8 at *
  try simp -implicitDefEqProofs only [kk0, kk1, kk2, kk3, rW_block, ↓two_true, ↓two_false, rW_cond, rO_guard, oS_some, oM_some, mkv, aggAt, Nat.reduceLeDiff, Nat.reduceSub, Nat.reduceMul, cond_true, cond_false, Option.bind_some, List.length_append, List.length_cons, List.length_nil, List.append_assoc, List.cons_append, List.nil_append, List.set_cons_zero, List.set_cons_succ, List.size_toArray, List.all_cons, List.all_nil, List.drop_zero, List.drop_succ_cons, List.take_succ_cons, List.take_zero, List.mem_cons, Prod.mk.injEq, List.not_mem_nil, implies_true, List.getElem?_toArray, List.getElem?_cons_zero, List.getElem?_cons_succ, List.getElem?_nil, Option.getD_some, Option.getD_none, Nat.reduceEqDiff, reduceIte, Nat.reduceAdd, List.map_toArray, List.map_cons, List.map_nil, Bool.false_eq_true, Nat.reduceBEq, Option.map_some, Option.map_none, reduceCtorEq, al26, ld24, ld26, st26, rd_own b_a1_H4, rd_own b_a1_H5, rd_own b_a1_H6, rd_own b_a1_H7, rd_own b_a1_H8, rd_own b_w_H4, rd_own b_w_H5, rd_own b_w_H6, rd_own b_w_H7, rd_own b_w_H8, rd_own b_x1_H6, rd_own b_x1_H7, rd_own b_x1_H8, rd_own b_g_H8]
  refine (eqArray_th f_g.rd f_w.rd).mono ?_
  rintro _ H9 ⟨rfl, hK9⟩
  have L9 := ext_len hK9
  have f_a1 := f_a1.ext hK9
  have f_w := f_w.ext hK9
  have f_x1 := f_x1.ext hK9
  have f_g := f_g.ext hK9
  have b_a1_H9 := (b_a1_H8).ext hK9
  have b_w_H9 := (b_w_H8).ext hK9
  have b_x1_H9 := (b_x1_H8).ext hK9
  have b_g_H9 := (b_g_H8).ext hK9
  simp -implicitDefEqProofs only [kk0, kk1, kk2, kk3, rW_block, ↓two_true, ↓two_false, rW_cond, rO_guard, oS_some, oM_some, mkv, aggAt, Nat.reduceLeDiff, Nat.reduceSub, Nat.reduceMul, cond_true, cond_false, Option.bind_some, List.length_append, List.length_cons, List.length_nil, List.append_assoc, List.cons_append, List.nil_append, List.set_cons_zero, List.set_cons_succ, List.size_toArray, List.all_cons, List.all_nil, List.drop_zero, List.drop_succ_cons, List.take_succ_cons, List.take_zero, List.mem_cons, Prod.mk.injEq, List.not_mem_nil, implies_true, List.getElem?_toArray, List.getElem?_cons_zero, List.getElem?_cons_succ, List.getElem?_nil, Option.getD_some, Option.getD_none, Nat.reduceEqDiff, reduceIte, Nat.reduceAdd, List.map_toArray, List.map_cons, List.map_nil, Bool.false_eq_true, Nat.reduceBEq, Option.map_some, Option.map_none, reduceCtorEq, al26, ld24, ld26, st26, rd_own b_a1_H5, rd_own b_a1_H6, rd_own b_a1_H7, rd_own b_a1_H8, rd_own b_a1_H9, rd_own b_w_H5, rd_own b_w_H6, rd_own b_w_H7, rd_own b_w_H8, rd_own b_w_H9, rd_own b_x1_H6, rd_own b_x1_H7, rd_own b_x1_H8, rd_own b_x1_H9, rd_own b_g_H8, rd_own b_g_H9, beq_self_eq_true, Bool.and_self, Bool.not_true, bne_self_eq_false]
  refine (toArray_th f_a1 hs1).mono ?_
  rintro _ H10 ⟨⟨y1a, y1c, y1b, y1d, rfl, nl⟩, hK10⟩
  have L10 := ext_len hK10
  have f_a1 := f_a1.ext hK10
  have f_w := f_w.ext hK10
  have f_x1 := f_x1.ext hK10
  have f_g := f_g.ext hK10
  have b_a1_H10 := (b_a1_H9).ext hK10
  have b_w_H10 := (b_w_H9).ext hK10
  have b_x1_H10 := (b_x1_H9).ext hK10
  have b_g_H10 := (b_g_H9).ext hK10
  have f_y1 := (nl).ok.1
  have r_y1 := (nl).ok.2
  simp -implicitDefEqProofs only [kk0, kk1, kk2, kk3, rW_block, ↓two_true, ↓two_false, rW_cond, rO_guard, oS_some, oM_some, mkv, aggAt, Nat.reduceLeDiff, Nat.reduceSub, Nat.reduceMul, cond_true, cond_false, Option.bind_some, List.length_append, List.length_cons, List.length_nil, List.append_assoc, List.cons_append, List.nil_append, List.set_cons_zero, List.set_cons_succ, List.size_toArray, List.all_cons, List.all_nil, List.drop_zero, List.drop_succ_cons, List.take_succ_cons, List.take_zero, List.mem_cons, Prod.mk.injEq, List.not_mem_nil, implies_true, List.getElem?_toArray, List.getElem?_cons_zero, List.getElem?_cons_succ, List.getElem?_nil, Option.getD_some, Option.getD_none, Nat.reduceEqDiff, reduceIte, Nat.reduceAdd, List.map_toArray, List.map_cons, List.map_nil, Bool.false_eq_true, Nat.reduceBEq, Option.map_some, Option.map_none, reduceCtorEq, al26, ld24, ld26, st26, rd_own b_a1_H6, rd_own b_a1_H7, rd_own b_a1_H8, rd_own b_a1_H9, rd_own b_a1_H10, rd_own b_w_H6, rd_own b_w_H7, rd_own b_w_H8, rd_own b_w_H9, rd_own b_w_H10, rd_own b_x1_H6, rd_own b_x1_H7, rd_own b_x1_H8, rd_own b_x1_H9, rd_own b_x1_H10, rd_own b_g_H8, rd_own b_g_H9, rd_own b_g_H10]
  refine (eqArray_th f_x1.rd f_y1.rd).mono ?_
  rintro _ H11 ⟨rfl, hK11⟩
  have L11 := ext_len hK11
  have f_a1 := f_a1.ext hK11
  have f_w := f_w.ext hK11
  have f_x1 := f_x1.ext hK11
  have f_g := f_g.ext hK11
  have f_y1 := f_y1.ext hK11
  have b_a1_H11 := (b_a1_H10).ext hK11
  have b_w_H11 := (b_w_H10).ext hK11
  have b_x1_H11 := (b_x1_H10).ext hK11
  have b_g_H11 := (b_g_H10).ext hK11
  simp -implicitDefEqProofs only [kk0, kk1, kk2, kk3, rW_block, ↓two_true, ↓two_false, rW_cond, rO_guard, oS_some, oM_some, mkv, aggAt, Nat.reduceLeDiff, Nat.reduceSub, Nat.reduceMul, cond_true, cond_false, Option.bind_some, List.length_append, List.length_cons, List.length_nil, List.append_assoc, List.cons_append, List.nil_append, List.set_cons_zero, List.set_cons_succ, List.size_toArray, List.all_cons, List.all_nil, List.drop_zero, List.drop_succ_cons, List.take_succ_cons, List.take_zero, List.mem_cons, Prod.mk.injEq, List.not_mem_nil, implies_true, List.getElem?_toArray, List.getElem?_cons_zero, List.getElem?_cons_succ, List.getElem?_nil, Option.getD_some, Option.getD_none, Nat.reduceEqDiff, reduceIte, Nat.reduceAdd, List.map_toArray, List.map_cons, List.map_nil, Bool.false_eq_true, Nat.reduceBEq, Option.map_some, Option.map_none, reduceCtorEq, al26, ld24, ld26, st26, rd_own b_a1_H7, rd_own b_a1_H8, rd_own b_a1_H9, rd_own b_a1_H10, rd_own b_a1_H11, rd_own b_w_H7, rd_own b_w_H8, rd_own b_w_H9, rd_own b_w_H10, rd_own b_w_H11, rd_own b_x1_H7, rd_own b_x1_H8, rd_own b_x1_H9, rd_own b_x1_H10, rd_own b_x1_H11, rd_own b_g_H8, rd_own b_g_H9, rd_own b_g_H10, rd_own b_g_H11, beq_self_eq_true, Bool.and_self, Bool.not_true, bne_self_eq_false]
  have hc1 := arrV_cnt (sh := sh1) (dt := dt1)
  refine (markArray_u f_x1 (by rw [hc1]; omega)).mono ?_
  rintro _ H12 ⟨rfl, hm, fm, vm⟩
  have L12 := hm.len
  have hfr := (hm.ok r_x1).2
  have f_a1 := f_a1.frame hfr (r_a1.off (by omega))
  have f_w := f_w.frame hfr (r_w.off (by omega))
  have f_g := f_g.frame hfr (r_g.off (by omega))
  have b_a1_H12 := (b_a1_H11).frame hfr (rb_a1.off (by omega))
  have b_w_H12 := (b_w_H11).frame hfr (rb_w.off (by omega))
  have b_x1_H12 := (b_x1_H11).frame hfr (rb_x1.off (by omega))
  have b_g_H12 := (b_g_H11).frame hfr (rb_g.off (by omega))
  clear f_x1 fm vm hm hfr
  rw [hc1]
  have d1 : decide (((1 : Int) + ((sh1.length + dt1.length : Nat) : Int)) < 0) = false := by simp; omega
  simp -implicitDefEqProofs only [kk0, kk1, kk2, kk3, rW_block, ↓two_true, ↓two_false, rW_cond, rO_guard, oS_some, oM_some, mkv, aggAt, Nat.reduceLeDiff, Nat.reduceSub, Nat.reduceMul, cond_true, cond_false, Option.bind_some, List.length_append, List.length_cons, List.length_nil, List.append_assoc, List.cons_append, List.nil_append, List.set_cons_zero, List.set_cons_succ, List.size_toArray, List.all_cons, List.all_nil, List.drop_zero, List.drop_succ_cons, List.take_succ_cons, List.take_zero, List.mem_cons, Prod.mk.injEq, List.not_mem_nil, implies_true, List.getElem?_toArray, List.getElem?_cons_zero, List.getElem?_cons_succ, List.getElem?_nil, Option.getD_some, Option.getD_none, Nat.reduceEqDiff, reduceIte, Nat.reduceAdd, List.map_toArray, List.map_cons, List.map_nil, Bool.false_eq_true, Nat.reduceBEq, Option.map_some, Option.map_none, reduceCtorEq, al26, ld24, ld26, st26, rd_own b_a1_H8, rd_own b_a1_H9, rd_own b_a1_H10, rd_own b_a1_H11, rd_own b_a1_H12, rd_own b_w_H8, rd_own b_w_H9, rd_own b_w_H10, rd_own b_w_H11, rd_own b_w_H12, rd_own b_x1_H8, rd_own b_x1_H9, rd_own b_x1_H10, rd_own b_x1_H11, rd_own b_x1_H12, rd_own b_g_H8, rd_own b_g_H9, rd_own b_g_H10, rd_own b_g_H11, rd_own b_g_H12, d1]
  refine (eqArray_th f_g.rd f_w.rd).mono ?_
  rintro _ H13 ⟨rfl, hK13⟩
  have L13 := ext_len hK13
  have f_a1 := f_a1.ext hK13
  have f_w := f_w.ext hK13
  have f_g := f_g.ext hK13
  have b_a1_H13 := (b_a1_H12).ext hK13
  have b_w_H13 := (b_w_H12).ext hK13
  have b_x1_H13 := (b_x1_H12).ext hK13
  have b_g_H13 := (b_g_H12).ext hK13
  simp -implicitDefEqProofs only [kk0, kk1, kk2, kk3, rW_block, ↓two_true, ↓two_false, rW_cond, rO_guard, oS_some, oM_some, mkv, aggAt, Nat.reduceLeDiff, Nat.reduceSub, Nat.reduceMul, cond_true, cond_false, Option.bind_some, List.length_append, List.length_cons, List.length_nil, List.append_assoc, List.cons_append, List.nil_append, List.set_cons_zero, List.set_cons_succ, List.size_toArray, List.all_cons, List.all_nil, List.drop_zero, List.drop_succ_cons, List.take_succ_cons, List.take_zero, List.mem_cons, Prod.mk.injEq, List.not_mem_nil, implies_true, List.getElem?_toArray, List.getElem?_cons_zero, List.getElem?_cons_succ, List.getElem?_nil, Option.getD_some, Option.getD_none, Nat.reduceEqDiff, reduceIte, Nat.reduceAdd, List.map_toArray, List.map_cons, List.map_nil, Bool.false_eq_true, Nat.reduceBEq, Option.map_some, Option.map_none, reduceCtorEq, al26, ld24, ld26, st26, rd_own b_a1_H9, rd_own b_a1_H10, rd_own b_a1_H11, rd_own b_a1_H12, rd_own b_a1_H13, rd_own b_w_H9, rd_own b_w_H10, rd_own b_w_H11, rd_own b_w_H12, rd_own b_w_H13, rd_own b_x1_H9, rd_own b_x1_H10, rd_own b_x1_H11, rd_own b_x1_H12, rd_own b_x1_H13, rd_own b_g_H9, rd_own b_g_H10, rd_own b_g_H11, rd_own b_g_H12, rd_own b_g_H13, beq_self_eq_true, Bool.and_self, Bool.not_true, bne_self_eq_false]
  have hcg := arrV_cnt (sh := R.1.1) (dt := R.1.2)
  refine (markArray_u f_g (by rw [hcg]; omega)).mono ?_
  rintro _ H14 ⟨rfl, hm, fm, vm⟩
  have L14 := hm.len
  have hfr := (hm.ok r_g).2
  have f_a1 := f_a1.frame hfr (r_a1.off (by omega))
  have f_w := f_w.frame hfr (r_w.off (by omega))
  have b_a1_H14 := (b_a1_H13).frame hfr (rb_a1.off (by omega))
  have b_w_H14 := (b_w_H13).frame hfr (rb_w.off (by omega))
  have b_x1_H14 := (b_x1_H13).frame hfr (rb_x1.off (by omega))
  have b_g_H14 := (b_g_H13).frame hfr (rb_g.off (by omega))
  have f_g := fm
  have r_g : LI.rg _ _ (.own (arrL (.slice ga R.1.1.length gc) (.slice gb R.1.2.length gd)) (arrV (mks 1 R.1.1.length) (mks (1 + R.1.1.length) R.1.2.length))) := fun b hb => r_g b hb
  have hc3 : cntF (arrV (mks 1 R.1.1.length) (mks (1 + R.1.1.length) R.1.2.length)).flatten = R.1.1.length + R.1.2.length := by rw [vm, cntF_mark, hcg]
  have hh : heldF (arrV (mks 1 R.1.1.length) (mks (1 + R.1.1.length) R.1.2.length)).flatten 1 = 1 + ((R.1.1.length + R.1.2.length : Nat) : Int) := by rw [vm, heldF_mark _ _ (by decide), hcg]
  rw [hcg]
  clear hm fm vm hfr
  have d2 : decide ((1 : Int) + ((R.1.1.length + R.1.2.length : Nat) : Int) < 0) = false := by simp; omega
  simp -implicitDefEqProofs only [kk0, kk1, kk2, kk3, rW_block, ↓two_true, ↓two_false, rW_cond, rO_guard, oS_some, oM_some, mkv, aggAt, Nat.reduceLeDiff, Nat.reduceSub, Nat.reduceMul, cond_true, cond_false, Option.bind_some, List.length_append, List.length_cons, List.length_nil, List.append_assoc, List.cons_append, List.nil_append, List.set_cons_zero, List.set_cons_succ, List.size_toArray, List.all_cons, List.all_nil, List.drop_zero, List.drop_succ_cons, List.take_succ_cons, List.take_zero, List.mem_cons, Prod.mk.injEq, List.not_mem_nil, implies_true, List.getElem?_toArray, List.getElem?_cons_zero, List.getElem?_cons_succ, List.getElem?_nil, Option.getD_some, Option.getD_none, Nat.reduceEqDiff, reduceIte, Nat.reduceAdd, List.map_toArray, List.map_cons, List.map_nil, Bool.false_eq_true, Nat.reduceBEq, Option.map_some, Option.map_none, reduceCtorEq, al26, ld24, ld26, st26, rd_own b_a1_H10, rd_own b_a1_H11, rd_own b_a1_H12, rd_own b_a1_H13, rd_own b_a1_H14, rd_own b_w_H10, rd_own b_w_H11, rd_own b_w_H12, rd_own b_w_H13, rd_own b_w_H14, rd_own b_x1_H10, rd_own b_x1_H11, rd_own b_x1_H12, rd_own b_x1_H13, rd_own b_x1_H14, rd_own b_g_H10, rd_own b_g_H11, rd_own b_g_H12, rd_own b_g_H13, rd_own b_g_H14]
  refine (heldArray_u f_g (by rw [hc3]; omega)).mono ?_
  rintro _ H15 ⟨rfl, hK15⟩
  have L15 := ext_len hK15
  have f_a1 := f_a1.ext hK15
  have f_w := f_w.ext hK15
  have f_g := f_g.ext hK15
  have b_a1_H15 := (b_a1_H14).ext hK15
  have b_w_H15 := (b_w_H14).ext hK15
  have b_x1_H15 := (b_x1_H14).ext hK15
  have b_g_H15 := (b_g_H14).ext hK15
  rw [hh]
  simp -implicitDefEqProofs only [kk0, kk1, kk2, kk3, rW_block, ↓two_true, ↓two_false, rW_cond, rO_guard, oS_some, oM_some, mkv, aggAt, Nat.reduceLeDiff, Nat.reduceSub, Nat.reduceMul, cond_true, cond_false, Option.bind_some, List.length_append, List.length_cons, List.length_nil, List.append_assoc, List.cons_append, List.nil_append, List.set_cons_zero, List.set_cons_succ, List.size_toArray, List.all_cons, List.all_nil, List.drop_zero, List.drop_succ_cons, List.take_succ_cons, List.take_zero, List.mem_cons, Prod.mk.injEq, List.not_mem_nil, implies_true, List.getElem?_toArray, List.getElem?_cons_zero, List.getElem?_cons_succ, List.getElem?_nil, Option.getD_some, Option.getD_none, Nat.reduceEqDiff, reduceIte, Nat.reduceAdd, List.map_toArray, List.map_cons, List.map_nil, Bool.false_eq_true, Nat.reduceBEq, Option.map_some, Option.map_none, reduceCtorEq, al26, ld24, ld26, st26, rd_own b_a1_H11, rd_own b_a1_H12, rd_own b_a1_H13, rd_own b_a1_H14, rd_own b_a1_H15, rd_own b_w_H11, rd_own b_w_H12, rd_own b_w_H13, rd_own b_w_H14, rd_own b_w_H15, rd_own b_x1_H11, rd_own b_x1_H12, rd_own b_x1_H13, rd_own b_x1_H14, rd_own b_x1_H15, rd_own b_g_H11, rd_own b_g_H12, rd_own b_g_H13, rd_own b_g_H14, rd_own b_g_H15, d2, bne_self_eq_false]
  refine (toArray_th f_a1 hs1).mono ?_
  rintro _ H16 ⟨⟨z1a, z1c, z1b, z1d, rfl, nl⟩, hK16⟩
  have L16 := ext_len hK16
  have f_a1 := f_a1.ext hK16
  have f_w := f_w.ext hK16
  have f_g := f_g.ext hK16
  have b_a1_H16 := (b_a1_H15).ext hK16
  have b_w_H16 := (b_w_H15).ext hK16
  have b_x1_H16 := (b_x1_H15).ext hK16
  have b_g_H16 := (b_g_H15).ext hK16
  have f_z1 := (nl).ok.1
  have r_z1 := (nl).ok.2
  simp -implicitDefEqProofs only [kk0, kk1, kk2, kk3, rW_block, ↓two_true, ↓two_false, rW_cond, rO_guard, oS_some, oM_some, mkv, aggAt, Nat.reduceLeDiff, Nat.reduceSub, Nat.reduceMul, cond_true, cond_false, Option.bind_some, List.length_append, List.length_cons, List.length_nil, List.append_assoc, List.cons_append, List.nil_append, List.set_cons_zero, List.set_cons_succ, List.size_toArray, List.all_cons, List.all_nil, List.drop_zero, List.drop_succ_cons, List.take_succ_cons, List.take_zero, List.mem_cons, Prod.mk.injEq, List.not_mem_nil, implies_true, List.getElem?_toArray, List.getElem?_cons_zero, List.getElem?_cons_succ, List.getElem?_nil, Option.getD_some, Option.getD_none, Nat.reduceEqDiff, reduceIte, Nat.reduceAdd, List.map_toArray, List.map_cons, List.map_nil, Bool.false_eq_true, Nat.reduceBEq, Option.map_some, Option.map_none, reduceCtorEq, al26, ld24, ld26, st26, rd_own b_a1_H12, rd_own b_a1_H13, rd_own b_a1_H14, rd_own b_a1_H15, rd_own b_a1_H16, rd_own b_w_H12, rd_own b_w_H13, rd_own b_w_H14, rd_own b_w_H15, rd_own b_w_H16, rd_own b_x1_H12, rd_own b_x1_H13, rd_own b_x1_H14, rd_own b_x1_H15, rd_own b_x1_H16, rd_own b_g_H12, rd_own b_g_H13, rd_own b_g_H14, rd_own b_g_H15, rd_own b_g_H16]
  refine (implScan_u hR f_z1.rd (by omega)).mono ?_
  rintro _ H17 ⟨⟨ha, hc, hb, hd, rfl, nl⟩, hK17⟩
  have L17 := ext_len hK17
  have f_a1 := f_a1.ext hK17
  have f_w := f_w.ext hK17
  have f_g := f_g.ext hK17
  have f_z1 := f_z1.ext hK17
  have b_a1_H17 := (b_a1_H16).ext hK17
  have b_w_H17 := (b_w_H16).ext hK17
  have b_x1_H17 := (b_x1_H16).ext hK17
  have b_g_H17 := (b_g_H16).ext hK17
  have f_h := (nl).ok.1
  have r_h := (nl).ok.2
  simp -implicitDefEqProofs only [kk0, kk1, kk2, kk3, rW_block, ↓two_true, ↓two_false, rW_cond, rO_guard, oS_some, oM_some, mkv, aggAt, Nat.reduceLeDiff, Nat.reduceSub, Nat.reduceMul, cond_true, cond_false, Option.bind_some, List.length_append, List.length_cons, List.length_nil, List.append_assoc, List.cons_append, List.nil_append, List.set_cons_zero, List.set_cons_succ, List.size_toArray, List.all_cons, List.all_nil, List.drop_zero, List.drop_succ_cons, List.take_succ_cons, List.take_zero, List.mem_cons, Prod.mk.injEq, List.not_mem_nil, implies_true, List.getElem?_toArray, List.getElem?_cons_zero, List.getElem?_cons_succ, List.getElem?_nil, Option.getD_some, Option.getD_none, Nat.reduceEqDiff, reduceIte, Nat.reduceAdd, List.map_toArray, List.map_cons, List.map_nil, Bool.false_eq_true, Nat.reduceBEq, Option.map_some, Option.map_none, reduceCtorEq, al26, ld24, ld26, st26, rd_own b_a1_H13, rd_own b_a1_H14, rd_own b_a1_H15, rd_own b_a1_H16, rd_own b_a1_H17, rd_own b_w_H13, rd_own b_w_H14, rd_own b_w_H15, rd_own b_w_H16, rd_own b_w_H17, rd_own b_x1_H13, rd_own b_x1_H14, rd_own b_x1_H15, rd_own b_x1_H16, rd_own b_x1_H17, rd_own b_g_H13, rd_own b_g_H14, rd_own b_g_H15, rd_own b_g_H16, rd_own b_g_H17]
  have b_h_H18 := LI.ok.box (H := H17) (cs := [.slice ha R.1.1.length hc, .slice hb R.1.2.length hd])
  have L18 : (H17 ++ [⟨[.slice ha R.1.1.length hc, .slice hb R.1.2.length hd], .own⟩] : AH).length = H17.length + 1 := by simp
  have rb_h : LI.rg H17.length (H17.length + 1) (.blk H17.length ⟨[.slice ha R.1.1.length hc, .slice hb R.1.2.length hd], .own⟩) := fun b hb => by cases hb; omega
  have hX18 : ∃ K, (H17 ++ [⟨[.slice ha R.1.1.length hc, .slice hb R.1.2.length hd], .own⟩] : AH) = H17 ++ K := ⟨_, rfl⟩
  have f_a1 := f_a1.ext hX18
  have f_w := f_w.ext hX18
  have f_g := f_g.ext hX18
  have f_z1 := f_z1.ext hX18
  have f_h := f_h.ext hX18
  have b_a1_H18 := (b_a1_H17).ext hX18
  have b_w_H18 := (b_w_H17).ext hX18
  have b_x1_H18 := (b_x1_H17).ext hX18
  have b_g_H18 := (b_g_H17).ext hX18
  clear hX18
  generalize (H17 ++ [⟨[.slice ha R.1.1.length hc, .slice hb R.1.2.length hd], .own⟩] : AH) = H18 at *
  try simp -implicitDefEqProofs only [kk0, kk1, kk2, kk3, rW_block, ↓two_true, ↓two_false, rW_cond, rO_guard, oS_some, oM_some, mkv, aggAt, Nat.reduceLeDiff, Nat.reduceSub, Nat.reduceMul, cond_true, cond_false, Option.bind_some, List.length_append, List.length_cons, List.length_nil, List.append_assoc, List.cons_append, List.nil_append, List.set_cons_zero, List.set_cons_succ, List.size_toArray, List.all_cons, List.all_nil, List.drop_zero, List.drop_succ_cons, List.take_succ_cons, List.take_zero, List.mem_cons, Prod.mk.injEq, List.not_mem_nil, implies_true, List.getElem?_toArray, List.getElem?_cons_zero, List.getElem?_cons_succ, List.getElem?_nil, Option.getD_some, Option.getD_none, Nat.reduceEqDiff, reduceIte, Nat.reduceAdd, List.map_toArray, List.map_cons, List.map_nil, Bool.false_eq_true, Nat.reduceBEq, Option.map_some, Option.map_none, reduceCtorEq, al26, ld24, ld26, st26, rd_own b_a1_H14, rd_own b_a1_H15, rd_own b_a1_H16, rd_own b_a1_H17, rd_own b_a1_H18, rd_own b_w_H14, rd_own b_w_H15, rd_own b_w_H16, rd_own b_w_H17, rd_own b_w_H18, rd_own b_x1_H14, rd_own b_x1_H15, rd_own b_x1_H16, rd_own b_x1_H17, rd_own b_x1_H18, rd_own b_g_H14, rd_own b_g_H15, rd_own b_g_H16, rd_own b_g_H17, rd_own b_g_H18, rd_own b_h_H18]
  refine (eqArray_th f_h.rd f_w.rd).mono ?_
  rintro _ H19 ⟨rfl, hK19⟩
  have L19 := ext_len hK19
  have f_a1 := f_a1.ext hK19
  have f_w := f_w.ext hK19
  have f_g := f_g.ext hK19
  have f_z1 := f_z1.ext hK19
  have f_h := f_h.ext hK19
  have b_a1_H19 := (b_a1_H18).ext hK19
  have b_w_H19 := (b_w_H18).ext hK19
  have b_x1_H19 := (b_x1_H18).ext hK19
  have b_g_H19 := (b_g_H18).ext hK19
  have b_h_H19 := (b_h_H18).ext hK19
  simp -implicitDefEqProofs only [kk0, kk1, kk2, kk3, rW_block, ↓two_true, ↓two_false, rW_cond, rO_guard, oS_some, oM_some, mkv, aggAt, Nat.reduceLeDiff, Nat.reduceSub, Nat.reduceMul, cond_true, cond_false, Option.bind_some, List.length_append, List.length_cons, List.length_nil, List.append_assoc, List.cons_append, List.nil_append, List.set_cons_zero, List.set_cons_succ, List.size_toArray, List.all_cons, List.all_nil, List.drop_zero, List.drop_succ_cons, List.take_succ_cons, List.take_zero, List.mem_cons, Prod.mk.injEq, List.not_mem_nil, implies_true, List.getElem?_toArray, List.getElem?_cons_zero, List.getElem?_cons_succ, List.getElem?_nil, Option.getD_some, Option.getD_none, Nat.reduceEqDiff, reduceIte, Nat.reduceAdd, List.map_toArray, List.map_cons, List.map_nil, Bool.false_eq_true, Nat.reduceBEq, Option.map_some, Option.map_none, reduceCtorEq, al26, ld24, ld26, st26, rd_own b_a1_H15, rd_own b_a1_H16, rd_own b_a1_H17, rd_own b_a1_H18, rd_own b_a1_H19, rd_own b_w_H15, rd_own b_w_H16, rd_own b_w_H17, rd_own b_w_H18, rd_own b_w_H19, rd_own b_x1_H15, rd_own b_x1_H16, rd_own b_x1_H17, rd_own b_x1_H18, rd_own b_x1_H19, rd_own b_g_H15, rd_own b_g_H16, rd_own b_g_H17, rd_own b_g_H18, rd_own b_g_H19, rd_own b_h_H18, rd_own b_h_H19, beq_self_eq_true, Bool.and_self, Bool.not_true, bne_self_eq_false]
  refine (heldArray_u f_g (by rw [hc3]; omega)).mono ?_
  rintro _ H20 ⟨rfl, hK20⟩
  have L20 := ext_len hK20
  have f_a1 := f_a1.ext hK20
  have f_w := f_w.ext hK20
  have f_g := f_g.ext hK20
  have f_z1 := f_z1.ext hK20
  have f_h := f_h.ext hK20
  have b_a1_H20 := (b_a1_H19).ext hK20
  have b_w_H20 := (b_w_H19).ext hK20
  have b_x1_H20 := (b_x1_H19).ext hK20
  have b_g_H20 := (b_g_H19).ext hK20
  have b_h_H20 := (b_h_H19).ext hK20
  rw [hh]
  simp -implicitDefEqProofs only [kk0, kk1, kk2, kk3, rW_block, ↓two_true, ↓two_false, rW_cond, rO_guard, oS_some, oM_some, mkv, aggAt, Nat.reduceLeDiff, Nat.reduceSub, Nat.reduceMul, cond_true, cond_false, Option.bind_some, List.length_append, List.length_cons, List.length_nil, List.append_assoc, List.cons_append, List.nil_append, List.set_cons_zero, List.set_cons_succ, List.size_toArray, List.all_cons, List.all_nil, List.drop_zero, List.drop_succ_cons, List.take_succ_cons, List.take_zero, List.mem_cons, Prod.mk.injEq, List.not_mem_nil, implies_true, List.getElem?_toArray, List.getElem?_cons_zero, List.getElem?_cons_succ, List.getElem?_nil, Option.getD_some, Option.getD_none, Nat.reduceEqDiff, reduceIte, Nat.reduceAdd, List.map_toArray, List.map_cons, List.map_nil, Bool.false_eq_true, Nat.reduceBEq, Option.map_some, Option.map_none, reduceCtorEq, al26, ld24, ld26, st26, rd_own b_a1_H16, rd_own b_a1_H17, rd_own b_a1_H18, rd_own b_a1_H19, rd_own b_a1_H20, rd_own b_w_H16, rd_own b_w_H17, rd_own b_w_H18, rd_own b_w_H19, rd_own b_w_H20, rd_own b_x1_H16, rd_own b_x1_H17, rd_own b_x1_H18, rd_own b_x1_H19, rd_own b_x1_H20, rd_own b_g_H16, rd_own b_g_H17, rd_own b_g_H18, rd_own b_g_H19, rd_own b_g_H20, rd_own b_h_H18, rd_own b_h_H19, rd_own b_h_H20, d2, bne_self_eq_false]

end Go.Proofs.Ytmlimgdpcoloiaa.AM
