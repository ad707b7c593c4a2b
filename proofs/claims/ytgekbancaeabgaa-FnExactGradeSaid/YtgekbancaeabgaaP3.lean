/- What the functions answer, part 3. -/
import Derived.Test.YtgekbancaeabgaaP2
set_option linter.unusedVariables false
set_option linter.unusedSimpArgs false
set_option linter.defProp false
set_option maxRecDepth 100000
/- What the functions answer, part 3. -/
namespace Go.Proofs.Ytgekbancaeabgaa.AM
open Go Go.Proofs.Ytgekbancaeabgaa Go.Proofs
set_option maxHeartbeats 4000000 in
theorem specGrade_ok {H : AH} {pa qa : Value} {sa da : List Int} (a : AR H pa qa sa da) : CallsA Try.prog 64 #[.agg #[pa, qa]] H fun r H' => Ans1 H H' r (gradeR sa da) := by
  have al := a.l1
  have bl := a.l2
  obtain ⟨za, zc, zb, zd, rfl, rfl⟩ := a.o1
  have q := (LX.nil (H := H))
  refine w64 ?_
  unfold k64
  simp -implicitDefEqProofs only [kz, kk0, kk1, kk2, kk3, ↓two_true, ↓two_false, mkv, aggAt, Nat.reduceLeDiff, Nat.reduceSub, Nat.reduceMul, implies_true, Nat.reduceEqDiff, reduceIte, Nat.reduceAdd, Nat.reduceBEq, reduceCtorEq, al45, ap43_43, bd45, bs43_0, bs43_1, fa45_0, fa45_1, ix43, ld3, ld43, ld45, ln43, st45]
  refine st_box q fun H1 q1 => ?_
  simp -implicitDefEqProofs only [kz, kk0, kk1, kk2, kk3, ↓two_true, ↓two_false, mkv, aggAt, Nat.reduceLeDiff, Nat.reduceSub, Nat.reduceMul, implies_true, Nat.reduceEqDiff, reduceIte, Nat.reduceAdd, Nat.reduceBEq, reduceCtorEq, al45, ap43_43, bd45, bs43_0, bs43_1, fa45_0, fa45_1, ix43, ld3, ld43, ld45, ln43, st45, q1.rd 0 rfl]
  refine st_box q1 fun H2 q2 => ?_
  simp -implicitDefEqProofs only [kz, kk0, kk1, kk2, kk3, ↓two_true, ↓two_false, mkv, aggAt, Nat.reduceLeDiff, Nat.reduceSub, Nat.reduceMul, implies_true, Nat.reduceEqDiff, reduceIte, Nat.reduceAdd, Nat.reduceBEq, reduceCtorEq, al45, ap43_43, bd45, bs43_0, bs43_1, fa45_0, fa45_1, ix43, ld3, ld43, ld45, ln43, st45, q2.rd 0 rfl, q2.rd 1 rfl]
  refine (specOk_ar (a.ext q2.ext)).mono ?_
  rintro _ H3 ⟨rfl, he1⟩
  have q3 := q2.extd he1
  simp -implicitDefEqProofs only [kz, kk0, kk1, kk2, kk3, ↓two_true, ↓two_false, mkv, aggAt, Nat.reduceLeDiff, Nat.reduceSub, Nat.reduceMul, implies_true, Nat.reduceEqDiff, reduceIte, Nat.reduceAdd, Nat.reduceBEq, reduceCtorEq, al45, ap43_43, bd45, bs43_0, bs43_1, fa45_0, fa45_1, ix43, ld3, ld43, ld45, ln43, st45, q3.rd 0 rfl, q3.rd 1 rfl]
  refine two_intro (fun u1 => ?_) (fun u1 => ?_)
  ·
    have w1 : arrOk sa da = false := by simpa using u1
    try simp -implicitDefEqProofs only [kz, kk0, kk1, kk2, kk3, ↓two_true, ↓two_false, mkv, aggAt, Nat.reduceLeDiff, Nat.reduceSub, Nat.reduceMul, implies_true, Nat.reduceEqDiff, reduceIte, Nat.reduceAdd, Nat.reduceBEq, reduceCtorEq, al45, ap43_43, bd45, bs43_0, bs43_1, fa45_0, fa45_1, ix43, ld3, ld43, ld45, ln43, st45, q3.rd 0 rfl, q3.rd 1 rfl]
    refine st_set q3 0 rfl fun H4 q4 => ?_
    simp only [List.set_cons_zero, List.set_cons_succ] at q4
    simp -implicitDefEqProofs only [kz, kk0, kk1, kk2, kk3, ↓two_true, ↓two_false, mkv, aggAt, Nat.reduceLeDiff, Nat.reduceSub, Nat.reduceMul, implies_true, Nat.reduceEqDiff, reduceIte, Nat.reduceAdd, Nat.reduceBEq, reduceCtorEq, al45, ap43_43, bd45, bs43_0, bs43_1, fa45_0, fa45_1, ix43, ld3, ld43, ld45, ln43, st45, q4.rd 0 rfl, q4.rd 1 rfl]
    -- end1
    exact q4.err (by unfold gradeR; rw [if_neg (by rw [w1]; decide)])
  ·
    have v1 : arrOk sa da = true := by simpa using u1
    try simp -implicitDefEqProofs only [kz, kk0, kk1, kk2, kk3, ↓two_true, ↓two_false, mkv, aggAt, Nat.reduceLeDiff, Nat.reduceSub, Nat.reduceMul, implies_true, Nat.reduceEqDiff, reduceIte, Nat.reduceAdd, Nat.reduceBEq, reduceCtorEq, al45, ap43_43, bd45, bs43_0, bs43_1, fa45_0, fa45_1, ix43, ld3, ld43, ld45, ln43, st45, q3.rd 0 rfl, q3.rd 1 rfl]
    refine two_intro (fun u2 => ?_) (fun u2 => ?_)
    ·
      have v2 : sa.length ≠ 1 := by have h5 : ¬ (sa.length : Int) = 1 := (by simpa using u2); omega
      try simp -implicitDefEqProofs only [kz, kk0, kk1, kk2, kk3, ↓two_true, ↓two_false, mkv, aggAt, Nat.reduceLeDiff, Nat.reduceSub, Nat.reduceMul, implies_true, Nat.reduceEqDiff, reduceIte, Nat.reduceAdd, Nat.reduceBEq, reduceCtorEq, al45, ap43_43, bd45, bs43_0, bs43_1, fa45_0, fa45_1, ix43, ld3, ld43, ld45, ln43, st45, q3.rd 0 rfl, q3.rd 1 rfl]
      refine st_set q3 0 rfl fun H5 q5 => ?_
      simp only [List.set_cons_zero, List.set_cons_succ] at q5
      simp -implicitDefEqProofs only [kz, kk0, kk1, kk2, kk3, ↓two_true, ↓two_false, mkv, aggAt, Nat.reduceLeDiff, Nat.reduceSub, Nat.reduceMul, implies_true, Nat.reduceEqDiff, reduceIte, Nat.reduceAdd, Nat.reduceBEq, reduceCtorEq, al45, ap43_43, bd45, bs43_0, bs43_1, fa45_0, fa45_1, ix43, ld3, ld43, ld45, ln43, st45, q5.rd 0 rfl, q5.rd 1 rfl]
      -- end2
      exact q5.err (by unfold gradeR; rw [if_pos v1, if_pos v2])
    ·
      have v2 : sa.length = 1 := by have h5 : (sa.length : Int) = 1 := (by simpa using u2); omega
      try simp -implicitDefEqProofs only [kz, kk0, kk1, kk2, kk3, ↓two_true, ↓two_false, mkv, aggAt, Nat.reduceLeDiff, Nat.reduceSub, Nat.reduceMul, implies_true, Nat.reduceEqDiff, reduceIte, Nat.reduceAdd, Nat.reduceBEq, reduceCtorEq, al45, ap43_43, bd45, bs43_0, bs43_1, fa45_0, fa45_1, ix43, ld3, ld43, ld45, ln43, st45, q3.rd 0 rfl, q3.rd 1 rfl]
      refine st_lit [] rfl rfl q3 fun H6 q6 => ?_
      simp -implicitDefEqProofs only [kz, kk0, kk1, kk2, kk3, ↓two_true, ↓two_false, mkv, aggAt, Nat.reduceLeDiff, Nat.reduceSub, Nat.reduceMul, implies_true, Nat.reduceEqDiff, reduceIte, Nat.reduceAdd, Nat.reduceBEq, reduceCtorEq, al45, ap43_43, bd45, bs43_0, bs43_1, fa45_0, fa45_1, ix43, ld3, ld43, ld45, ln43, st45, q6.rd 1 rfl, q6.rd 2 rfl]
      refine rW_loopQ (σ := Nat × Value) q6 [1, 2, 3] (fun x tm => tm 5 = .int .i64 x.1 ∧ tm 4 = x.2 ∧ x.1 ≤ da.length) (fun x L => L.set 0 (.own (.row x.2 (grdG (gD da) x.1)))) (fun x => da.length - x.1) (0, _) ⟨rfl, by first | rfl | assumption, Nat.zero_le _⟩ rfl ?_
      rintro ⟨i, ov⟩ tm1 H7 ⟨lv1, lv2, lv3, -⟩ ⟨ki, ko, hi⟩ q7
      simp -implicitDefEqProofs only [kz, kk0, kk1, kk2, kk3, ↓two_true, ↓two_false, mkv, aggAt, Nat.reduceLeDiff, Nat.reduceSub, Nat.reduceMul, implies_true, Nat.reduceEqDiff, reduceIte, Nat.reduceAdd, Nat.reduceBEq, reduceCtorEq, al45, ap43_43, bd45, bs43_0, bs43_1, fa45_0, fa45_1, ix43, ld3, ld43, ld45, ln43, st45] at lv1 lv2 lv3
      simp only [List.set_cons_zero, List.set_cons_succ] at q7
      simp only at ki ko hi
      have wi : IntKind.i64.wrap ((i : Int) + 1) = ((i + 1 : Nat) : Int) := IntWalk.i64_in ((i : Int) + 1) (by omega)
      obtain ⟨a1, c1, rfl⟩ := (q7.own 0 rfl).isSlice
      simp -implicitDefEqProofs only [kz, kk0, kk1, kk2, kk3, ↓two_true, ↓two_false, mkv, aggAt, Nat.reduceLeDiff, Nat.reduceSub, Nat.reduceMul, implies_true, Nat.reduceEqDiff, reduceIte, Nat.reduceAdd, Nat.reduceBEq, reduceCtorEq, al45, ap43_43, bd45, bs43_0, bs43_1, fa45_0, fa45_1, ix43, ld3, ld43, ld45, ln43, st45, lv1, lv2, lv3, ki, ko, wi, q7.rd 1 rfl, q7.rd 2 rfl]
      refine two_intro (fun u3 => ?_) (fun u3 => ?_)
      ·
        have hi2 : i < da.length := by have h5 := of_decide_eq_true u3; omega
        try simp -implicitDefEqProofs only [kz, kk0, kk1, kk2, kk3, ↓two_true, ↓two_false, mkv, aggAt, Nat.reduceLeDiff, Nat.reduceSub, Nat.reduceMul, implies_true, Nat.reduceEqDiff, reduceIte, Nat.reduceAdd, Nat.reduceBEq, reduceCtorEq, al45, ap43_43, bd45, bs43_0, bs43_1, fa45_0, fa45_1, ix43, ld3, ld43, ld45, ln43, st45, lv1, lv2, lv3, ki, ko, wi, q7.rd 1 rfl, q7.rd 2 rfl]
        refine st_lit [] rfl rfl q7 fun H8 q8 => ?_
        simp -implicitDefEqProofs only [kz, kk0, kk1, kk2, kk3, ↓two_true, ↓two_false, mkv, aggAt, Nat.reduceLeDiff, Nat.reduceSub, Nat.reduceMul, implies_true, Nat.reduceEqDiff, reduceIte, Nat.reduceAdd, Nat.reduceBEq, reduceCtorEq, al45, ap43_43, bd45, bs43_0, bs43_1, fa45_0, fa45_1, ix43, ld3, ld43, ld45, ln43, st45, lv1, lv2, lv3, ki, ko, wi, q8.rd 2 rfl, q8.rd 3 rfl]
        refine rW_loopQ (σ := Nat × Value) q8 [1, 2, 3, 4, 5] (fun x tm => tm 8 = .int .i64 x.1 ∧ tm 6 = x.2 ∧ tm 7 = .bool (putS (gD da) i (grdG (gD da) i) x.1).2 ∧ x.1 ≤ i) (fun x L => L.set 0 (.own (.row x.2 (putS (gD da) i (grdG (gD da) i) x.1).1))) (fun x => i - x.1) (0, _) ⟨rfl, by first | rfl | assumption, by first | rfl | assumption, Nat.zero_le _⟩ rfl ?_
        rintro ⟨k, nv⟩ tm2 H9 ⟨lv4, lv5, lv6, lv7, lv8, -⟩ ⟨kk, kn, kp, hk⟩ q9
        simp -implicitDefEqProofs only [kz, kk0, kk1, kk2, kk3, ↓two_true, ↓two_false, mkv, aggAt, Nat.reduceLeDiff, Nat.reduceSub, Nat.reduceMul, implies_true, Nat.reduceEqDiff, reduceIte, Nat.reduceAdd, Nat.reduceBEq, reduceCtorEq, al45, ap43_43, bd45, bs43_0, bs43_1, fa45_0, fa45_1, ix43, ld3, ld43, ld45, ln43, st45, lv1, lv2, lv3, ki, ko, wi] at lv4 lv5 lv6 lv7 lv8
        simp only [List.set_cons_zero, List.set_cons_succ] at q9
        simp only at kk kn kp hk
        have wk : IntKind.i64.wrap ((k : Int) + 1) = ((k + 1 : Nat) : Int) := IntWalk.i64_in ((k : Int) + 1) (by omega)
        have hpl := putS_len (D := gD da) (x := (i : Int)) (l := grdG (gD da) i) (k := k) (by rw [grdG_len]; exact hk)
        obtain ⟨a2, c2, rfl⟩ := (q9.own 0 rfl).isSlice
        simp -implicitDefEqProofs only [kz, kk0, kk1, kk2, kk3, ↓two_true, ↓two_false, mkv, aggAt, Nat.reduceLeDiff, Nat.reduceSub, Nat.reduceMul, implies_true, Nat.reduceEqDiff, reduceIte, Nat.reduceAdd, Nat.reduceBEq, reduceCtorEq, al45, ap43_43, bd45, bs43_0, bs43_1, fa45_0, fa45_1, ix43, ld3, ld43, ld45, ln43, st45, ki, ko, wi, lv4, lv5, lv6, lv7, lv8, kk, kn, kp, wk, q9.rd 2 rfl, q9.rd 3 rfl]
        refine two_intro (fun u4 => ?_) (fun u4 => ?_)
        ·
          have hk2 : k < i := by have h5 := of_decide_eq_true u4; rw [grdG_len] at h5; omega
          have hgl : k < (grdG (gD da) i).length := by rw [grdG_len]; exact hk2
          have hmm := grdG_mem (List.getElem_mem hgl)
          obtain ⟨m, hm⟩ : ∃ m : Nat, (grdG (gD da) i)[k] = (m : Int) := ⟨((grdG (gD da) i)[k]).toNat, by omega⟩
          have hm2 : m < da.length := by omega
          have hDy : gD da (grdG (gD da) i)[k] = da[m] := by rw [hm]; show gx da ((m : Int).toNat) = _; rw [Int.toNat_natCast, ← gx_el hm2]
          have hDx : gD da (i : Int) = da[i] := by show gx da ((i : Int).toNat) = _; rw [Int.toNat_natCast, ← gx_el hi2]
          have hps0 := putS_succ (D := gD da) (x := (i : Int)) hgl
          try simp -implicitDefEqProofs only [kz, kk0, kk1, kk2, kk3, ↓two_true, ↓two_false, mkv, aggAt, Nat.reduceLeDiff, Nat.reduceSub, Nat.reduceMul, implies_true, Nat.reduceEqDiff, reduceIte, Nat.reduceAdd, Nat.reduceBEq, reduceCtorEq, al45, ap43_43, bd45, bs43_0, bs43_1, fa45_0, fa45_1, ix43, ld3, ld43, ld45, ln43, st45, hm, ki, ko, wi, lv4, lv5, lv6, lv7, lv8, kk, kn, kp, wk, q9.rd 2 rfl, q9.rd 3 rfl]
          refine two_intro (fun u5 => ?_) (fun u5 => ?_)
          ·
            have pf : (putS (gD da) (i : Int) (grdG (gD da) i) k).2 = false := by simpa using u5
            obtain ⟨b1, o1, cs1, ei1, fr1, fc1⟩ := ixI (q9.int 1 rfl) (i := k) hgl
            obtain ⟨b2, o2, cs2, ei2, fr2, fc2⟩ := ixI (a.od.ext q9.ext) (i := m) hm2
            obtain ⟨b3, o3, cs3, ei3, fr3, fc3⟩ := ixI (a.od.ext q9.ext) (i := i) hi2
            try simp -implicitDefEqProofs only [kz, kk0, kk1, kk2, kk3, ↓two_true, ↓two_false, mkv, aggAt, Nat.reduceLeDiff, Nat.reduceSub, Nat.reduceMul, implies_true, Nat.reduceEqDiff, reduceIte, Nat.reduceAdd, Nat.reduceBEq, reduceCtorEq, al45, ap43_43, bd45, bs43_0, bs43_1, fa45_0, fa45_1, ix43, ld3, ld43, ld45, ln43, st45, hm, ei1, fr1, fc1, ei2, fr2, fc2, ei3, fr3, fc3, ki, ko, wi, lv4, lv5, lv6, lv7, lv8, kk, kn, kp, wk, q9.rd 2 rfl, q9.rd 3 rfl]
            refine two_intro (fun u6 => ?_) (fun u6 => ?_)
            ·
              have hps : putS (gD da) (i : Int) (grdG (gD da) i) (k + 1) = ((putS (gD da) (i : Int) (grdG (gD da) i) k).1 ++ [(i : Int)] ++ [(m : Int)], true) := by rw [hps0, ← hm]; exact if_pos ⟨pf, by rw [hDy, hDx]; exact of_decide_eq_true u6⟩
              try simp -implicitDefEqProofs only [kz, kk0, kk1, kk2, kk3, ↓two_true, ↓two_false, mkv, aggAt, Nat.reduceLeDiff, Nat.reduceSub, Nat.reduceMul, implies_true, Nat.reduceEqDiff, reduceIte, Nat.reduceAdd, Nat.reduceBEq, reduceCtorEq, al45, ap43_43, bd45, bs43_0, bs43_1, fa45_0, fa45_1, ix43, ld3, ld43, ld45, ln43, st45, hm, ei1, fr1, fc1, ei2, fr2, fc2, ei3, fr3, fc3, ki, ko, wi, lv4, lv5, lv6, lv7, lv8, kk, kn, kp, wk, q9.rd 2 rfl, q9.rd 3 rfl]
              refine st_lit [(i : Int)] rfl rfl q9 fun H10 q10 => ?_
              simp -implicitDefEqProofs only [kz, kk0, kk1, kk2, kk3, ↓two_true, ↓two_false, mkv, aggAt, Nat.reduceLeDiff, Nat.reduceSub, Nat.reduceMul, implies_true, Nat.reduceEqDiff, reduceIte, Nat.reduceAdd, Nat.reduceBEq, reduceCtorEq, al45, ap43_43, bd45, bs43_0, bs43_1, fa45_0, fa45_1, ix43, ld3, ld43, ld45, ln43, st45, hm, ki, ko, wi, lv4, lv5, lv6, lv7, lv8, kk, kn, kp, wk, q10.rd 3 rfl, q10.rd 4 rfl]
              refine st_app q10 1 rfl (q10.int 0 rfl) (by (try simp only [List.length_cons, List.length_nil, List.length_append, List.length_replicate, List.length_map, List.length_take, List.length_drop]); omega) fun a3 c3 H11 q11 => ?_
              simp only [List.set_cons_zero, List.set_cons_succ, List.length_nil, List.length_cons, Nat.zero_add, List.nil_append] at q11 ⊢
              obtain ⟨b4, o4, cs4, ei4, fr4, fc4⟩ := ixI (q11.int 2 rfl) (i := k) hgl
              simp -implicitDefEqProofs only [kz, kk0, kk1, kk2, kk3, ↓two_true, ↓two_false, mkv, aggAt, Nat.reduceLeDiff, Nat.reduceSub, Nat.reduceMul, implies_true, Nat.reduceEqDiff, reduceIte, Nat.reduceAdd, Nat.reduceBEq, reduceCtorEq, al45, ap43_43, bd45, bs43_0, bs43_1, fa45_0, fa45_1, ix43, ld3, ld43, ld45, ln43, st45, hm, ei4, fr4, fc4, ki, ko, wi, lv4, lv5, lv6, lv7, lv8, kk, kn, kp, wk, q11.rd 3 rfl, q11.rd 4 rfl]
              refine st_lit [(m : Int)] rfl rfl q11 fun H12 q12 => ?_
              simp -implicitDefEqProofs only [kz, kk0, kk1, kk2, kk3, ↓two_true, ↓two_false, mkv, aggAt, Nat.reduceLeDiff, Nat.reduceSub, Nat.reduceMul, implies_true, Nat.reduceEqDiff, reduceIte, Nat.reduceAdd, Nat.reduceBEq, reduceCtorEq, al45, ap43_43, bd45, bs43_0, bs43_1, fa45_0, fa45_1, ix43, ld3, ld43, ld45, ln43, st45, hm, ki, ko, wi, lv4, lv5, lv6, lv7, lv8, kk, kn, kp, wk, q12.rd 4 rfl, q12.rd 5 rfl]
              refine st_app q12 2 rfl (q12.int 0 rfl) (by (try simp only [List.length_cons, List.length_nil, List.length_append, List.length_replicate, List.length_map, List.length_take, List.length_drop]); omega) fun a4 c4 H13 q13 => ?_
              simp only [List.set_cons_zero, List.set_cons_succ, List.length_nil, List.length_cons, Nat.zero_add, List.nil_append] at q13 ⊢
              simp -implicitDefEqProofs only [kz, kk0, kk1, kk2, kk3, ↓two_true, ↓two_false, mkv, aggAt, Nat.reduceLeDiff, Nat.reduceSub, Nat.reduceMul, implies_true, Nat.reduceEqDiff, reduceIte, Nat.reduceAdd, Nat.reduceBEq, reduceCtorEq, al45, ap43_43, bd45, bs43_0, bs43_1, fa45_0, fa45_1, ix43, ld3, ld43, ld45, ln43, st45, hm, ki, ko, wi, lv4, lv5, lv6, lv7, lv8, kk, kn, kp, wk, q13.rd 4 rfl, q13.rd 5 rfl]
              -- back loop2
              refine ⟨(k + 1, _), (by simp only; omega), ⟨rfl, rfl, rfl, rfl, rfl, trivial⟩, ⟨by first | rfl | simp, rfl, by simp only; rw [hps], hk2⟩, ?_⟩
              simp only [List.set_cons_zero, List.set_cons_succ]
              rw [hps]
              try simp only [List.length_append, List.length_cons, List.length_nil, Nat.zero_add] at q13 ⊢
              exact q13.pick [2, 3, 4, 5] _ rfl (by decide)
            ·
              have hps : putS (gD da) (i : Int) (grdG (gD da) i) (k + 1) = ((putS (gD da) (i : Int) (grdG (gD da) i) k).1 ++ [(m : Int)], (putS (gD da) (i : Int) (grdG (gD da) i) k).2) := by rw [hps0, ← hm]; exact if_neg (fun h => by rw [hDy, hDx] at h; exact of_decide_eq_false u6 h.2)
              obtain ⟨b5, o5, cs5, ei5, fr5, fc5⟩ := ixI (q9.int 1 rfl) (i := k) hgl
              try simp -implicitDefEqProofs only [kz, kk0, kk1, kk2, kk3, ↓two_true, ↓two_false, mkv, aggAt, Nat.reduceLeDiff, Nat.reduceSub, Nat.reduceMul, implies_true, Nat.reduceEqDiff, reduceIte, Nat.reduceAdd, Nat.reduceBEq, reduceCtorEq, al45, ap43_43, bd45, bs43_0, bs43_1, fa45_0, fa45_1, ix43, ld3, ld43, ld45, ln43, st45, hm, ei1, fr1, fc1, ei2, fr2, fc2, ei3, fr3, fc3, ei5, fr5, fc5, ki, ko, wi, lv4, lv5, lv6, lv7, lv8, kk, kn, kp, wk, q9.rd 2 rfl, q9.rd 3 rfl]
              refine st_lit [(m : Int)] rfl rfl q9 fun H14 q14 => ?_
              simp -implicitDefEqProofs only [kz, kk0, kk1, kk2, kk3, ↓two_true, ↓two_false, mkv, aggAt, Nat.reduceLeDiff, Nat.reduceSub, Nat.reduceMul, implies_true, Nat.reduceEqDiff, reduceIte, Nat.reduceAdd, Nat.reduceBEq, reduceCtorEq, al45, ap43_43, bd45, bs43_0, bs43_1, fa45_0, fa45_1, ix43, ld3, ld43, ld45, ln43, st45, hm, ki, ko, wi, lv4, lv5, lv6, lv7, lv8, kk, kn, kp, wk, q14.rd 3 rfl, q14.rd 4 rfl]
              refine st_app q14 1 rfl (q14.int 0 rfl) (by (try simp only [List.length_cons, List.length_nil, List.length_append, List.length_replicate, List.length_map, List.length_take, List.length_drop]); omega) fun a5 c5 H15 q15 => ?_
              simp only [List.set_cons_zero, List.set_cons_succ, List.length_nil, List.length_cons, Nat.zero_add, List.nil_append] at q15 ⊢
              simp -implicitDefEqProofs only [kz, kk0, kk1, kk2, kk3, ↓two_true, ↓two_false, mkv, aggAt, Nat.reduceLeDiff, Nat.reduceSub, Nat.reduceMul, implies_true, Nat.reduceEqDiff, reduceIte, Nat.reduceAdd, Nat.reduceBEq, reduceCtorEq, al45, ap43_43, bd45, bs43_0, bs43_1, fa45_0, fa45_1, ix43, ld3, ld43, ld45, ln43, st45, hm, ki, ko, wi, lv4, lv5, lv6, lv7, lv8, kk, kn, kp, wk, q15.rd 3 rfl, q15.rd 4 rfl]
              -- back loop2
              refine ⟨(k + 1, _), (by simp only; omega), ⟨rfl, rfl, rfl, rfl, rfl, trivial⟩, ⟨by first | rfl | simp, rfl, by simp only; rw [hps], hk2⟩, ?_⟩
              simp only [List.set_cons_zero, List.set_cons_succ]
              rw [hps]
              try simp only [List.length_append, List.length_cons, List.length_nil, Nat.zero_add] at q15 ⊢
              exact q15.pick [1, 2, 3, 4] _ rfl (by decide)
          ·
            have pt : (putS (gD da) (i : Int) (grdG (gD da) i) k).2 = true := by simpa using u5
            have hps : putS (gD da) (i : Int) (grdG (gD da) i) (k + 1) = ((putS (gD da) (i : Int) (grdG (gD da) i) k).1 ++ [(m : Int)], (putS (gD da) (i : Int) (grdG (gD da) i) k).2) := by rw [hps0, ← hm]; exact if_neg (fun h => by rw [pt] at h; exact absurd h.1 (by decide))
            try simp -implicitDefEqProofs only [kz, kk0, kk1, kk2, kk3, ↓two_true, ↓two_false, mkv, aggAt, Nat.reduceLeDiff, Nat.reduceSub, Nat.reduceMul, implies_true, Nat.reduceEqDiff, reduceIte, Nat.reduceAdd, Nat.reduceBEq, reduceCtorEq, al45, ap43_43, bd45, bs43_0, bs43_1, fa45_0, fa45_1, ix43, ld3, ld43, ld45, ln43, st45, hm, ki, ko, wi, lv4, lv5, lv6, lv7, lv8, kk, kn, kp, wk, q9.rd 2 rfl, q9.rd 3 rfl]
            obtain ⟨b6, o6, cs6, ei6, fr6, fc6⟩ := ixI (q9.int 1 rfl) (i := k) hgl
            try simp -implicitDefEqProofs only [kz, kk0, kk1, kk2, kk3, ↓two_true, ↓two_false, mkv, aggAt, Nat.reduceLeDiff, Nat.reduceSub, Nat.reduceMul, implies_true, Nat.reduceEqDiff, reduceIte, Nat.reduceAdd, Nat.reduceBEq, reduceCtorEq, al45, ap43_43, bd45, bs43_0, bs43_1, fa45_0, fa45_1, ix43, ld3, ld43, ld45, ln43, st45, hm, ei6, fr6, fc6, ki, ko, wi, lv4, lv5, lv6, lv7, lv8, kk, kn, kp, wk, q9.rd 2 rfl, q9.rd 3 rfl]
            refine st_lit [(m : Int)] rfl rfl q9 fun H16 q16 => ?_
            simp -implicitDefEqProofs only [kz, kk0, kk1, kk2, kk3, ↓two_true, ↓two_false, mkv, aggAt, Nat.reduceLeDiff, Nat.reduceSub, Nat.reduceMul, implies_true, Nat.reduceEqDiff, reduceIte, Nat.reduceAdd, Nat.reduceBEq, reduceCtorEq, al45, ap43_43, bd45, bs43_0, bs43_1, fa45_0, fa45_1, ix43, ld3, ld43, ld45, ln43, st45, hm, ki, ko, wi, lv4, lv5, lv6, lv7, lv8, kk, kn, kp, wk, q16.rd 3 rfl, q16.rd 4 rfl]
            refine st_app q16 1 rfl (q16.int 0 rfl) (by (try simp only [List.length_cons, List.length_nil, List.length_append, List.length_replicate, List.length_map, List.length_take, List.length_drop]); omega) fun a6 c6 H17 q17 => ?_
            simp only [List.set_cons_zero, List.set_cons_succ, List.length_nil, List.length_cons, Nat.zero_add, List.nil_append] at q17 ⊢
            simp -implicitDefEqProofs only [kz, kk0, kk1, kk2, kk3, ↓two_true, ↓two_false, mkv, aggAt, Nat.reduceLeDiff, Nat.reduceSub, Nat.reduceMul, implies_true, Nat.reduceEqDiff, reduceIte, Nat.reduceAdd, Nat.reduceBEq, reduceCtorEq, al45, ap43_43, bd45, bs43_0, bs43_1, fa45_0, fa45_1, ix43, ld3, ld43, ld45, ln43, st45, hm, ki, ko, wi, lv4, lv5, lv6, lv7, lv8, kk, kn, kp, wk, q17.rd 3 rfl, q17.rd 4 rfl]
            -- back loop2
            refine ⟨(k + 1, _), (by simp only; omega), ⟨rfl, rfl, rfl, rfl, rfl, trivial⟩, ⟨by first | rfl | simp, rfl, by simp only; rw [hps], hk2⟩, ?_⟩
            simp only [List.set_cons_zero, List.set_cons_succ]
            rw [hps]
            try simp only [List.length_append, List.length_cons, List.length_nil, Nat.zero_add] at q17 ⊢
            exact q17.pick [1, 2, 3, 4] _ rfl (by decide)
        ·
          have hkl : k = (grdG (gD da) i).length := by have h5 := of_decide_eq_false u4; rw [grdG_len] at h5 ⊢; omega
          try simp -implicitDefEqProofs only [kz, kk0, kk1, kk2, kk3, ↓two_true, ↓two_false, mkv, aggAt, Nat.reduceLeDiff, Nat.reduceSub, Nat.reduceMul, implies_true, Nat.reduceEqDiff, reduceIte, Nat.reduceAdd, Nat.reduceBEq, reduceCtorEq, al45, ap43_43, bd45, bs43_0, bs43_1, fa45_0, fa45_1, ix43, ld3, ld43, ld45, ln43, st45, ki, ko, wi, lv4, lv5, lv6, lv7, lv8, kk, kn, kp, wk, q9.rd 2 rfl, q9.rd 3 rfl]
          refine two_intro (fun u7 => ?_) (fun u7 => ?_)
          ·
            have e6 : (putS (gD da) (i : Int) (grdG (gD da) i) k).1 ++ [(i : Int)] = grdG (gD da) (i + 1) := by have h5 : (putS (gD da) (i : Int) (grdG (gD da) i) k).2 = false := (by simpa using u7); rw [hkl] at h5 ⊢; exact putS_f h5
            try simp -implicitDefEqProofs only [kz, kk0, kk1, kk2, kk3, ↓two_true, ↓two_false, mkv, aggAt, Nat.reduceLeDiff, Nat.reduceSub, Nat.reduceMul, implies_true, Nat.reduceEqDiff, reduceIte, Nat.reduceAdd, Nat.reduceBEq, reduceCtorEq, al45, ap43_43, bd45, bs43_0, bs43_1, fa45_0, fa45_1, ix43, ld3, ld43, ld45, ln43, st45, ki, ko, wi, lv4, lv5, lv6, lv7, lv8, kk, kn, kp, wk, q9.rd 2 rfl, q9.rd 3 rfl]
            refine st_lit [(i : Int)] rfl rfl q9 fun H18 q18 => ?_
            simp -implicitDefEqProofs only [kz, kk0, kk1, kk2, kk3, ↓two_true, ↓two_false, mkv, aggAt, Nat.reduceLeDiff, Nat.reduceSub, Nat.reduceMul, implies_true, Nat.reduceEqDiff, reduceIte, Nat.reduceAdd, Nat.reduceBEq, reduceCtorEq, al45, ap43_43, bd45, bs43_0, bs43_1, fa45_0, fa45_1, ix43, ld3, ld43, ld45, ln43, st45, ki, ko, wi, lv4, lv5, lv6, lv7, lv8, kk, kn, kp, wk, q18.rd 3 rfl, q18.rd 4 rfl]
            refine st_app q18 1 rfl (q18.int 0 rfl) (by (try simp only [List.length_cons, List.length_nil, List.length_append, List.length_replicate, List.length_map, List.length_take, List.length_drop]); omega) fun a7 c7 H19 q19 => ?_
            simp only [List.set_cons_zero, List.set_cons_succ, List.length_nil, List.length_cons, Nat.zero_add, List.nil_append] at q19 ⊢
            simp -implicitDefEqProofs only [kz, kk0, kk1, kk2, kk3, ↓two_true, ↓two_false, mkv, aggAt, Nat.reduceLeDiff, Nat.reduceSub, Nat.reduceMul, implies_true, Nat.reduceEqDiff, reduceIte, Nat.reduceAdd, Nat.reduceBEq, reduceCtorEq, al45, ap43_43, bd45, bs43_0, bs43_1, fa45_0, fa45_1, ix43, ld3, ld43, ld45, ln43, st45, ki, ko, wi, lv4, lv5, lv6, lv7, lv8, kk, kn, kp, wk, q19.rd 3 rfl, q19.rd 4 rfl]
            -- back loop1
            refine ⟨(i + 1, _), (by simp only; omega), ⟨(lv4.trans lv1.symm), (lv5.trans lv2.symm), (lv6.trans lv3.symm), trivial⟩, ⟨by first | rfl | simp, rfl, hi2⟩, ?_⟩
            simp only [List.set_cons_zero, List.set_cons_succ]
            rw [← e6]
            exact q19.pick [1, 3, 4] _ rfl (by decide)
          ·
            have e6 : (putS (gD da) (i : Int) (grdG (gD da) i) k).1 = grdG (gD da) (i + 1) := by have h5 : (putS (gD da) (i : Int) (grdG (gD da) i) k).2 = true := (by simpa using u7); rw [hkl] at h5 ⊢; exact putS_t h5
            try simp -implicitDefEqProofs only [kz, kk0, kk1, kk2, kk3, ↓two_true, ↓two_false, mkv, aggAt, Nat.reduceLeDiff, Nat.reduceSub, Nat.reduceMul, implies_true, Nat.reduceEqDiff, reduceIte, Nat.reduceAdd, Nat.reduceBEq, reduceCtorEq, al45, ap43_43, bd45, bs43_0, bs43_1, fa45_0, fa45_1, ix43, ld3, ld43, ld45, ln43, st45, ki, ko, wi, lv4, lv5, lv6, lv7, lv8, kk, kn, kp, wk, q9.rd 2 rfl, q9.rd 3 rfl]
            -- back loop1
            refine ⟨(i + 1, _), (by simp only; omega), ⟨(lv4.trans lv1.symm), (lv5.trans lv2.symm), (lv6.trans lv3.symm), trivial⟩, ⟨by first | rfl | simp, rfl, hi2⟩, ?_⟩
            simp only [List.set_cons_zero, List.set_cons_succ]
            rw [← e6]
            exact q9.pick [0, 2, 3] _ rfl (by decide)
      ·
        have hil : i = da.length := Nat.le_antisymm hi (by have h5 := of_decide_eq_false u3; omega)
        subst hil
        try simp -implicitDefEqProofs only [kz, kk0, kk1, kk2, kk3, ↓two_true, ↓two_false, mkv, aggAt, Nat.reduceLeDiff, Nat.reduceSub, Nat.reduceMul, implies_true, Nat.reduceEqDiff, reduceIte, Nat.reduceAdd, Nat.reduceBEq, reduceCtorEq, al45, ap43_43, bd45, bs43_0, bs43_1, fa45_0, fa45_1, ix43, ld3, ld43, ld45, ln43, st45, lv1, lv2, lv3, ki, ko, wi, q7.rd 1 rfl, q7.rd 2 rfl]
        refine (l3VectorA_ok (q7.int 0 rfl) (by rw [grdG_len]; omega) ).mono ?_
        rintro _ H20 ⟨p1, p2, rfl, g1⟩
        have q20 := q7.join g1
        simp only [List.map_cons, List.map_nil, List.cons_append, List.nil_append] at q20
        obtain ⟨a8, c8, rfl⟩ := (q20.own 0 rfl).isSlice
        obtain ⟨a9, c9, rfl⟩ := (q20.own 1 rfl).isSlice
        simp -implicitDefEqProofs only [kz, kk0, kk1, kk2, kk3, ↓two_true, ↓two_false, mkv, aggAt, Nat.reduceLeDiff, Nat.reduceSub, Nat.reduceMul, implies_true, Nat.reduceEqDiff, reduceIte, Nat.reduceAdd, Nat.reduceBEq, reduceCtorEq, al45, ap43_43, bd45, bs43_0, bs43_1, fa45_0, fa45_1, ix43, ld3, ld43, ld45, ln43, st45, lv1, lv2, lv3, ki, ko, wi, q20.rd 3 rfl, q20.rd 4 rfl]
        refine st_set q20 3 rfl fun H21 q21 => ?_
        simp only [List.set_cons_zero, List.set_cons_succ] at q21
        simp -implicitDefEqProofs only [kz, kk0, kk1, kk2, kk3, ↓two_true, ↓two_false, mkv, aggAt, Nat.reduceLeDiff, Nat.reduceSub, Nat.reduceMul, implies_true, Nat.reduceEqDiff, reduceIte, Nat.reduceAdd, Nat.reduceBEq, reduceCtorEq, al45, ap43_43, bd45, bs43_0, bs43_1, fa45_0, fa45_1, ix43, ld3, ld43, ld45, ln43, st45, lv1, lv2, lv3, ki, ko, wi, q21.rd 3 rfl, q21.rd 4 rfl]
        -- end3
        exact q21.ans 0 1 (by decide) rfl rfl (by unfold gradeR; rw [if_pos v1, if_neg (fun h => h v2)])

theorem gradeR_lim {sa da : List Int} : (gradeR sa da).1.1.length ≤ 1048576 ∧ (gradeR sa da).1.2.length ≤ 1048576 := by
  unfold gradeR
  split
  · rename_i h
    have h1 := arrOk_size h
    split
    · simp
    · refine ⟨by simp, ?_⟩
      simp only [grdG_len]
      omega
  · simp

theorem implGrade_u {H : AH} {p0 q0 : Value} {sh0 dt0 : List Int} {R : (List Int × List Int) × Int} (hR : gradeR sh0 dt0 = R) (h0 : LI.ok H (.rd (arrL p0 q0) (arrV sh0 dt0))) (l0 : sh0.length + dt0.length ≤ 1048576) :
    CallsA Try.prog 66 #[.agg #[p0, q0]] H fun r H' => (∃ a c b d, r = .tuple #[.agg #[.slice a R.1.1.length c, .slice b R.1.2.length d], .int .i64 R.2] ∧ NewL H H' (arrL (.slice a R.1.1.length c) (.slice b R.1.2.length d)) (arrV R.1.1 R.1.2)) ∧ ∃ K, H' = H ++ K := by
  subst hR
  obtain ⟨e0, f0, _⟩ := LI.arr h0
  exact (implGrade_ok ⟨e0, f0, by omega, by omega⟩).mono fun r H' h => h.ares.newL gradeR_lim

theorem specGrade_u {H : AH} {p0 q0 : Value} {sh0 dt0 : List Int} {R : (List Int × List Int) × Int} (hR : gradeR sh0 dt0 = R) (h0 : LI.ok H (.rd (arrL p0 q0) (arrV sh0 dt0))) (l0 : sh0.length + dt0.length ≤ 1048576) :
    CallsA Try.prog 64 #[.agg #[p0, q0]] H fun r H' => (∃ a c b d, r = .tuple #[.agg #[.slice a R.1.1.length c, .slice b R.1.2.length d], .int .i64 R.2] ∧ NewL H H' (arrL (.slice a R.1.1.length c) (.slice b R.1.2.length d)) (arrV R.1.1 R.1.2)) ∧ ∃ K, H' = H ++ K := by
  subst hR
  obtain ⟨e0, f0, _⟩ := LI.arr h0
  exact (specGrade_ok ⟨e0, f0, by omega, by omega⟩).mono fun r H' h => h.ares.newL gradeR_lim

set_option maxHeartbeats 4000000 in
theorem law13 : LawA Try.prog 13 [77] := by
  intro H vs hro h
  obtain ⟨v0, vs0, rfl, hv0, g0⟩ := h.cons
  obtain rfl := g0.nil
  obtain ⟨k0, us0, hr0, rfl⟩ := hv0
  obtain ⟨p0, q0, sh0, dt0, rfl, oa0, ob0, na0, nb0, _⟩ := hr0.arr
  simp only [mkV, Try.underlying77]
  obtain ⟨a0a, a0c, rfl, _⟩ := oa0.op
  obtain ⟨a0b, a0d, rfl, _⟩ := ob0.op
  refine w13 ?_
  unfold k13
  simp -implicitDefEqProofs only [kz, kk0, kk1, kk2, kk3, ↓two_true, ↓two_false, oS_some, oM_some, mkv, aggAt, Nat.reduceLeDiff, Nat.reduceSub, Nat.reduceMul, implies_true, Nat.reduceEqDiff, reduceIte, Nat.reduceAdd, Nat.reduceBEq, reduceCtorEq, al45, ld45, ld77, st45]
  have bx0 : (H ++ [⟨[.slice a0a sh0.length a0c, .slice a0b dt0.length a0d], .own⟩] : AH)[H.length]? = some ⟨[.slice a0a sh0.length a0c, .slice a0b dt0.length a0d], .own⟩ := by rw [gt0]; rfl
  have ia0 := oa0.mono (L := [⟨[.slice a0a sh0.length a0c, .slice a0b dt0.length a0d], .own⟩])
  have ib0 := ob0.mono (L := [⟨[.slice a0a sh0.length a0c, .slice a0b dt0.length a0d], .own⟩])
  have L0 : (H ++ [⟨[.slice a0a sh0.length a0c, .slice a0b dt0.length a0d], .own⟩] : AH).length = H.length + 1 := by simp
  generalize hH0 : (H ++ [⟨[.slice a0a sh0.length a0c, .slice a0b dt0.length a0d], .own⟩] : AH) = H0 at *
  refine (szArray_u ia0 ib0 na0 nb0 (by omega)).mono ?_
  rintro _ H1 ⟨rfl, hK1⟩
  have L1 := ext_len hK1
  have ia0 := ia0.ext hK1
  have ib0 := ib0.ext hK1
  have bx0 := get_ext bx0 hK1
  simp -implicitDefEqProofs only [kz, kk0, kk1, kk2, kk3, ↓two_true, ↓two_false, oS_some, oM_some, mkv, aggAt, Nat.reduceLeDiff, Nat.reduceSub, Nat.reduceMul, implies_true, Nat.reduceEqDiff, reduceIte, Nat.reduceAdd, Nat.reduceBEq, reduceCtorEq, al45, ld45, ld77, st45, rd_own bx0]
  refine two_intro (fun h => trivial) (fun h => ?_)
  obtain ⟨hsv0, hsz0⟩ := szI_pos (by simpa using h)
  clear h
  have hs0 : sh0.length + dt0.length ≤ 1048576 := by omega
  have f_a0 := arr_rd ia0 ib0 hs0
  have r_a0 : LI.rg 0 H.length (.rd (arrL (.slice a0a (sh0).length a0c) (.slice a0b (dt0).length a0d)) (arrV (sh0) (dt0))) := fun b hb => ⟨Nat.zero_le _, (arr_rd oa0 ob0 hs0).lt b hb⟩
  have b_a0_H1 : LI.ok H1 (.blk H.length ⟨[.slice a0a sh0.length a0c, .slice a0b dt0.length a0d], .own⟩) := bx0
  have rb_a0 : LI.rg H.length (H.length + 1) (.blk H.length ⟨[.slice a0a sh0.length a0c, .slice a0b dt0.length a0d], .own⟩) := fun b hb => by cases hb; omega
  clear ia0 ib0 bx0 oa0 ob0
  obtain ⟨R, hR⟩ : ∃ R, gradeR sh0 dt0 = R := ⟨_, rfl⟩
  have hRl : R.1.1.length ≤ 1048576 ∧ R.1.2.length ≤ 1048576 := by rw [← hR]; exact gradeR_lim
  refine (toArray_th f_a0 hs0).mono ?_
  rintro _ H2 ⟨⟨t0a, t0c, t0b, t0d, rfl, nl⟩, hK2⟩
  have L2 := ext_len hK2
  have f_a0 := f_a0.ext hK2
  have b_a0_H2 := (b_a0_H1).ext hK2
  have f_t0 := (nl).ok.1
  have r_t0 := (nl).ok.2
  simp -implicitDefEqProofs only [kz, kk0, kk1, kk2, kk3, ↓two_true, ↓two_false, oS_some, oM_some, mkv, aggAt, Nat.reduceLeDiff, Nat.reduceSub, Nat.reduceMul, implies_true, Nat.reduceEqDiff, reduceIte, Nat.reduceAdd, Nat.reduceBEq, reduceCtorEq, al45, ld45, ld77, st45, rd_own b_a0_H1, rd_own b_a0_H2]
  refine (specGrade_u hR f_t0.rd (by omega)).mono ?_
  rintro _ H3 ⟨⟨wa, wc, wb, wd, rfl, nl⟩, hK3⟩
  have L3 := ext_len hK3
  have f_a0 := f_a0.ext hK3
  have f_t0 := f_t0.ext hK3
  have b_a0_H3 := (b_a0_H2).ext hK3
  have f_w := (nl).ok.1
  have r_w := (nl).ok.2
  simp -implicitDefEqProofs only [kz, kk0, kk1, kk2, kk3, ↓two_true, ↓two_false, oS_some, oM_some, mkv, aggAt, Nat.reduceLeDiff, Nat.reduceSub, Nat.reduceMul, implies_true, Nat.reduceEqDiff, reduceIte, Nat.reduceAdd, Nat.reduceBEq, reduceCtorEq, al45, ld45, ld77, st45, rd_own b_a0_H1, rd_own b_a0_H2, rd_own b_a0_H3]
  have b_w_H4 := LI.ok.box (H := H3) (cs := [.slice wa R.1.1.length wc, .slice wb R.1.2.length wd])
  have L4 : (H3 ++ [⟨[.slice wa R.1.1.length wc, .slice wb R.1.2.length wd], .own⟩] : AH).length = H3.length + 1 := by simp
  have rb_w : LI.rg H3.length (H3.length + 1) (.blk H3.length ⟨[.slice wa R.1.1.length wc, .slice wb R.1.2.length wd], .own⟩) := fun b hb => by cases hb; omega
  have hX4 : ∃ K, (H3 ++ [⟨[.slice wa R.1.1.length wc, .slice wb R.1.2.length wd], .own⟩] : AH) = H3 ++ K := ⟨_, rfl⟩
  have f_a0 := f_a0.ext hX4
  have f_w := f_w.ext hX4
  have b_a0_H4 := (b_a0_H3).ext hX4
  clear hX4
  generalize (H3 ++ [⟨[.slice wa R.1.1.length wc, .slice wb R.1.2.length wd], .own⟩] : AH) = H4 at *
  try simp -implicitDefEqProofs only [kz, kk0, kk1, kk2, kk3, ↓two_true, ↓two_false, oS_some, oM_some, mkv, aggAt, Nat.reduceLeDiff, Nat.reduceSub, Nat.reduceMul, implies_true, Nat.reduceEqDiff, reduceIte, Nat.reduceAdd, Nat.reduceBEq, reduceCtorEq, al45, ld45, ld77, st45, rd_own b_a0_H1, rd_own b_a0_H2, rd_own b_a0_H3, rd_own b_a0_H4, rd_own b_w_H4]
  refine (toArray_th f_a0 hs0).mono ?_
  rintro _ H5 ⟨⟨x0a, x0c, x0b, x0d, rfl, nl⟩, hK5⟩
  have L5 := ext_len hK5
  have f_a0 := f_a0.ext hK5
  have f_w := f_w.ext hK5
  have b_a0_H5 := (b_a0_H4).ext hK5
  have b_w_H5 := (b_w_H4).ext hK5
  have f_x0 := (nl).ok.1
  have r_x0 := (nl).ok.2
  simp -implicitDefEqProofs only [kz, kk0, kk1, kk2, kk3, ↓two_true, ↓two_false, oS_some, oM_some, mkv, aggAt, Nat.reduceLeDiff, Nat.reduceSub, Nat.reduceMul, implies_true, Nat.reduceEqDiff, reduceIte, Nat.reduceAdd, Nat.reduceBEq, reduceCtorEq, al45, ld45, ld77, st45, rd_own b_a0_H1, rd_own b_a0_H2, rd_own b_a0_H3, rd_own b_a0_H4, rd_own b_a0_H5, rd_own b_w_H4, rd_own b_w_H5]
  have b_x0_H6 := LI.ok.box (H := H5) (cs := [.slice x0a sh0.length x0c, .slice x0b dt0.length x0d])
  have L6 : (H5 ++ [⟨[.slice x0a sh0.length x0c, .slice x0b dt0.length x0d], .own⟩] : AH).length = H5.length + 1 := by simp
  have rb_x0 : LI.rg H5.length (H5.length + 1) (.blk H5.length ⟨[.slice x0a sh0.length x0c, .slice x0b dt0.length x0d], .own⟩) := fun b hb => by cases hb; omega
  have hX6 : ∃ K, (H5 ++ [⟨[.slice x0a sh0.length x0c, .slice x0b dt0.length x0d], .own⟩] : AH) = H5 ++ K := ⟨_, rfl⟩
  have f_a0 := f_a0.ext hX6
  have f_w := f_w.ext hX6
  have f_x0 := f_x0.ext hX6
  have b_a0_H6 := (b_a0_H5).ext hX6
  have b_w_H6 := (b_w_H5).ext hX6
  clear hX6
  generalize (H5 ++ [⟨[.slice x0a sh0.length x0c, .slice x0b dt0.length x0d], .own⟩] : AH) = H6 at *
  try simp -implicitDefEqProofs only [kz, kk0, kk1, kk2, kk3, ↓two_true, ↓two_false, oS_some, oM_some, mkv, aggAt, Nat.reduceLeDiff, Nat.reduceSub, Nat.reduceMul, implies_true, Nat.reduceEqDiff, reduceIte, Nat.reduceAdd, Nat.reduceBEq, reduceCtorEq, al45, ld45, ld77, st45, rd_own b_a0_H2, rd_own b_a0_H3, rd_own b_a0_H4, rd_own b_a0_H5, rd_own b_a0_H6, rd_own b_w_H4, rd_own b_w_H5, rd_own b_w_H6, rd_own b_x0_H6]
  refine (implGrade_u hR f_x0.rd (by omega)).mono ?_
  rintro _ H7 ⟨⟨ga, gc, gb, gd, rfl, nl⟩, hK7⟩
  have L7 := ext_len hK7
  have f_a0 := f_a0.ext hK7
  have f_w := f_w.ext hK7
  have f_x0 := f_x0.ext hK7
  have b_a0_H7 := (b_a0_H6).ext hK7
  have b_w_H7 := (b_w_H6).ext hK7
  have b_x0_H7 := (b_x0_H6).ext hK7
  have f_g := (nl).ok.1
  have r_g := (nl).ok.2
  simp -implicitDefEqProofs only [kz, kk0, kk1, kk2, kk3, ↓two_true, ↓two_false, oS_some, oM_some, mkv, aggAt, Nat.reduceLeDiff, Nat.reduceSub, Nat.reduceMul, implies_true, Nat.reduceEqDiff, reduceIte, Nat.reduceAdd, Nat.reduceBEq, reduceCtorEq, al45, ld45, ld77, st45, rd_own b_a0_H3, rd_own b_a0_H4, rd_own b_a0_H5, rd_own b_a0_H6, rd_own b_a0_H7, rd_own b_w_H4, rd_own b_w_H5, rd_own b_w_H6, rd_own b_w_H7, rd_own b_x0_H6, rd_own b_x0_H7]
  have b_g_H8 := LI.ok.box (H := H7) (cs := [.slice ga R.1.1.length gc, .slice gb R.1.2.length gd])
  have L8 : (H7 ++ [⟨[.slice ga R.1.1.length gc, .slice gb R.1.2.length gd], .own⟩] : AH).length = H7.length + 1 := by simp
  have rb_g : LI.rg H7.length (H7.length + 1) (.blk H7.length ⟨[.slice ga R.1.1.length gc, .slice gb R.1.2.length gd], .own⟩) := fun b hb => by cases hb; omega
  have hX8 : ∃ K, (H7 ++ [⟨[.slice ga R.1.1.length gc, .slice gb R.1.2.length gd], .own⟩] : AH) = H7 ++ K := ⟨_, rfl⟩
  have f_a0 := f_a0.ext hX8
  have f_w := f_w.ext hX8
  have f_x0 := f_x0.ext hX8
  have f_g := f_g.ext hX8
  have b_a0_H8 := (b_a0_H7).ext hX8
  have b_w_H8 := (b_w_H7).ext hX8
  have b_x0_H8 := (b_x0_H7).ext hX8
  clear hX8
  generalize (H7 ++ [⟨[.slice ga R.1.1.length gc, .slice gb R.1.2.length gd], .own⟩] : AH) = H8 at *
  try simp -implicitDefEqProofs only [kz, kk0, kk1, kk2, kk3, ↓two_true, ↓two_false, oS_some, oM_some, mkv, aggAt, Nat.reduceLeDiff, Nat.reduceSub, Nat.reduceMul, implies_true, Nat.reduceEqDiff, reduceIte, Nat.reduceAdd, Nat.reduceBEq, reduceCtorEq, al45, ld45, ld77, st45, rd_own b_a0_H4, rd_own b_a0_H5, rd_own b_a0_H6, rd_own b_a0_H7, rd_own b_a0_H8, rd_own b_w_H4, rd_own b_w_H5, rd_own b_w_H6, rd_own b_w_H7, rd_own b_w_H8, rd_own b_x0_H6, rd_own b_x0_H7, rd_own b_x0_H8, rd_own b_g_H8]
  refine (eqArray_th f_g.rd f_w.rd).mono ?_
  rintro _ H9 ⟨rfl, hK9⟩
  have L9 := ext_len hK9
  have f_a0 := f_a0.ext hK9
  have f_w := f_w.ext hK9
  have f_x0 := f_x0.ext hK9
  have f_g := f_g.ext hK9
  have b_a0_H9 := (b_a0_H8).ext hK9
  have b_w_H9 := (b_w_H8).ext hK9
  have b_x0_H9 := (b_x0_H8).ext hK9
  have b_g_H9 := (b_g_H8).ext hK9
  simp -implicitDefEqProofs only [kz, kk0, kk1, kk2, kk3, ↓two_true, ↓two_false, oS_some, oM_some, mkv, aggAt, Nat.reduceLeDiff, Nat.reduceSub, Nat.reduceMul, implies_true, Nat.reduceEqDiff, reduceIte, Nat.reduceAdd, Nat.reduceBEq, reduceCtorEq, al45, ld45, ld77, st45, rd_own b_a0_H5, rd_own b_a0_H6, rd_own b_a0_H7, rd_own b_a0_H8, rd_own b_a0_H9, rd_own b_w_H5, rd_own b_w_H6, rd_own b_w_H7, rd_own b_w_H8, rd_own b_w_H9, rd_own b_x0_H6, rd_own b_x0_H7, rd_own b_x0_H8, rd_own b_x0_H9, rd_own b_g_H8, rd_own b_g_H9, beq_self_eq_true, Bool.and_self, Bool.not_true, bne_self_eq_false]
  refine (toArray_th f_a0 hs0).mono ?_
  rintro _ H10 ⟨⟨y0a, y0c, y0b, y0d, rfl, nl⟩, hK10⟩
  have L10 := ext_len hK10
  have f_a0 := f_a0.ext hK10
  have f_w := f_w.ext hK10
  have f_x0 := f_x0.ext hK10
  have f_g := f_g.ext hK10
  have b_a0_H10 := (b_a0_H9).ext hK10
  have b_w_H10 := (b_w_H9).ext hK10
  have b_x0_H10 := (b_x0_H9).ext hK10
  have b_g_H10 := (b_g_H9).ext hK10
  have f_y0 := (nl).ok.1
  have r_y0 := (nl).ok.2
  simp -implicitDefEqProofs only [kz, kk0, kk1, kk2, kk3, ↓two_true, ↓two_false, oS_some, oM_some, mkv, aggAt, Nat.reduceLeDiff, Nat.reduceSub, Nat.reduceMul, implies_true, Nat.reduceEqDiff, reduceIte, Nat.reduceAdd, Nat.reduceBEq, reduceCtorEq, al45, ld45, ld77, st45, rd_own b_a0_H6, rd_own b_a0_H7, rd_own b_a0_H8, rd_own b_a0_H9, rd_own b_a0_H10, rd_own b_w_H6, rd_own b_w_H7, rd_own b_w_H8, rd_own b_w_H9, rd_own b_w_H10, rd_own b_x0_H6, rd_own b_x0_H7, rd_own b_x0_H8, rd_own b_x0_H9, rd_own b_x0_H10, rd_own b_g_H8, rd_own b_g_H9, rd_own b_g_H10]
  refine (eqArray_th f_x0.rd f_y0.rd).mono ?_
  rintro _ H11 ⟨rfl, hK11⟩
  have L11 := ext_len hK11
  have f_a0 := f_a0.ext hK11
  have f_w := f_w.ext hK11
  have f_x0 := f_x0.ext hK11
  have f_g := f_g.ext hK11
  have f_y0 := f_y0.ext hK11
  have b_a0_H11 := (b_a0_H10).ext hK11
  have b_w_H11 := (b_w_H10).ext hK11
  have b_x0_H11 := (b_x0_H10).ext hK11
  have b_g_H11 := (b_g_H10).ext hK11
  simp -implicitDefEqProofs only [kz, kk0, kk1, kk2, kk3, ↓two_true, ↓two_false, oS_some, oM_some, mkv, aggAt, Nat.reduceLeDiff, Nat.reduceSub, Nat.reduceMul, implies_true, Nat.reduceEqDiff, reduceIte, Nat.reduceAdd, Nat.reduceBEq, reduceCtorEq, al45, ld45, ld77, st45, rd_own b_a0_H7, rd_own b_a0_H8, rd_own b_a0_H9, rd_own b_a0_H10, rd_own b_a0_H11, rd_own b_w_H7, rd_own b_w_H8, rd_own b_w_H9, rd_own b_w_H10, rd_own b_w_H11, rd_own b_x0_H7, rd_own b_x0_H8, rd_own b_x0_H9, rd_own b_x0_H10, rd_own b_x0_H11, rd_own b_g_H8, rd_own b_g_H9, rd_own b_g_H10, rd_own b_g_H11, beq_self_eq_true, Bool.and_self, Bool.not_true, bne_self_eq_false]
  have hc0 := arrV_cnt (sh := sh0) (dt := dt0)
  refine (markArray_u f_x0 (by rw [hc0]; omega)).mono ?_
  rintro _ H12 ⟨rfl, hm, fm, vm⟩
  have L12 := hm.len
  have hfr := (hm.ok r_x0).2
  have f_a0 := f_a0.frame hfr (r_a0.off (by omega))
  have f_w := f_w.frame hfr (r_w.off (by omega))
  have f_g := f_g.frame hfr (r_g.off (by omega))
  have b_a0_H12 := (b_a0_H11).frame hfr (rb_a0.off (by omega))
  have b_w_H12 := (b_w_H11).frame hfr (rb_w.off (by omega))
  have b_x0_H12 := (b_x0_H11).frame hfr (rb_x0.off (by omega))
  have b_g_H12 := (b_g_H11).frame hfr (rb_g.off (by omega))
  clear f_x0 fm vm hm hfr
  rw [hc0]
  have d1 : decide (((1 : Int) + ((sh0.length + dt0.length : Nat) : Int)) < 0) = false := by simp; omega
  simp -implicitDefEqProofs only [kz, kk0, kk1, kk2, kk3, ↓two_true, ↓two_false, oS_some, oM_some, mkv, aggAt, Nat.reduceLeDiff, Nat.reduceSub, Nat.reduceMul, implies_true, Nat.reduceEqDiff, reduceIte, Nat.reduceAdd, Nat.reduceBEq, reduceCtorEq, al45, ld45, ld77, st45, rd_own b_a0_H8, rd_own b_a0_H9, rd_own b_a0_H10, rd_own b_a0_H11, rd_own b_a0_H12, rd_own b_w_H8, rd_own b_w_H9, rd_own b_w_H10, rd_own b_w_H11, rd_own b_w_H12, rd_own b_x0_H8, rd_own b_x0_H9, rd_own b_x0_H10, rd_own b_x0_H11, rd_own b_x0_H12, rd_own b_g_H8, rd_own b_g_H9, rd_own b_g_H10, rd_own b_g_H11, rd_own b_g_H12, d1]
  refine (eqArray_th f_g.rd f_w.rd).mono ?_
  rintro _ H13 ⟨rfl, hK13⟩
  have L13 := ext_len hK13
  have f_a0 := f_a0.ext hK13
  have f_w := f_w.ext hK13
  have f_g := f_g.ext hK13
  have b_a0_H13 := (b_a0_H12).ext hK13
  have b_w_H13 := (b_w_H12).ext hK13
  have b_x0_H13 := (b_x0_H12).ext hK13
  have b_g_H13 := (b_g_H12).ext hK13
  simp -implicitDefEqProofs only [kz, kk0, kk1, kk2, kk3, ↓two_true, ↓two_false, oS_some, oM_some, mkv, aggAt, Nat.reduceLeDiff, Nat.reduceSub, Nat.reduceMul, implies_true, Nat.reduceEqDiff, reduceIte, Nat.reduceAdd, Nat.reduceBEq, reduceCtorEq, al45, ld45, ld77, st45, rd_own b_a0_H9, rd_own b_a0_H10, rd_own b_a0_H11, rd_own b_a0_H12, rd_own b_a0_H13, rd_own b_w_H9, rd_own b_w_H10, rd_own b_w_H11, rd_own b_w_H12, rd_own b_w_H13, rd_own b_x0_H9, rd_own b_x0_H10, rd_own b_x0_H11, rd_own b_x0_H12, rd_own b_x0_H13, rd_own b_g_H9, rd_own b_g_H10, rd_own b_g_H11, rd_own b_g_H12, rd_own b_g_H13, beq_self_eq_true, Bool.and_self, Bool.not_true, bne_self_eq_false]
  have hcg := arrV_cnt (sh := R.1.1) (dt := R.1.2)
  refine (markArray_u f_g (by rw [hcg]; omega)).mono ?_
  rintro _ H14 ⟨rfl, hm, fm, vm⟩
  have L14 := hm.len
  have hfr := (hm.ok r_g).2
  have f_a0 := f_a0.frame hfr (r_a0.off (by omega))
  have f_w := f_w.frame hfr (r_w.off (by omega))
  have b_a0_H14 := (b_a0_H13).frame hfr (rb_a0.off (by omega))
  have b_w_H14 := (b_w_H13).frame hfr (rb_w.off (by omega))
  have b_x0_H14 := (b_x0_H13).frame hfr (rb_x0.off (by omega))
  have b_g_H14 := (b_g_H13).frame hfr (rb_g.off (by omega))
  have f_g := fm
  have r_g : LI.rg _ _ (.own (arrL (.slice ga R.1.1.length gc) (.slice gb R.1.2.length gd)) (arrV (mks 1 R.1.1.length) (mks (1 + R.1.1.length) R.1.2.length))) := fun b hb => r_g b hb
  have hc3 : cntF (arrV (mks 1 R.1.1.length) (mks (1 + R.1.1.length) R.1.2.length)).flatten = R.1.1.length + R.1.2.length := by rw [vm, cntF_mark, hcg]
  have hh : heldF (arrV (mks 1 R.1.1.length) (mks (1 + R.1.1.length) R.1.2.length)).flatten 1 = 1 + ((R.1.1.length + R.1.2.length : Nat) : Int) := by rw [vm, heldF_mark _ _ (by decide), hcg]
  rw [hcg]
  clear hm fm vm hfr
  have d2 : decide ((1 : Int) + ((R.1.1.length + R.1.2.length : Nat) : Int) < 0) = false := by simp; omega
  simp -implicitDefEqProofs only [kz, kk0, kk1, kk2, kk3, ↓two_true, ↓two_false, oS_some, oM_some, mkv, aggAt, Nat.reduceLeDiff, Nat.reduceSub, Nat.reduceMul, implies_true, Nat.reduceEqDiff, reduceIte, Nat.reduceAdd, Nat.reduceBEq, reduceCtorEq, al45, ld45, ld77, st45, rd_own b_a0_H10, rd_own b_a0_H11, rd_own b_a0_H12, rd_own b_a0_H13, rd_own b_a0_H14, rd_own b_w_H10, rd_own b_w_H11, rd_own b_w_H12, rd_own b_w_H13, rd_own b_w_H14, rd_own b_x0_H10, rd_own b_x0_H11, rd_own b_x0_H12, rd_own b_x0_H13, rd_own b_x0_H14, rd_own b_g_H10, rd_own b_g_H11, rd_own b_g_H12, rd_own b_g_H13, rd_own b_g_H14]
  refine (heldArray_u f_g (by rw [hc3]; omega)).mono ?_
  rintro _ H15 ⟨rfl, hK15⟩
  have L15 := ext_len hK15
  have f_a0 := f_a0.ext hK15
  have f_w := f_w.ext hK15
  have f_g := f_g.ext hK15
  have b_a0_H15 := (b_a0_H14).ext hK15
  have b_w_H15 := (b_w_H14).ext hK15
  have b_x0_H15 := (b_x0_H14).ext hK15
  have b_g_H15 := (b_g_H14).ext hK15
  rw [hh]
  simp -implicitDefEqProofs only [kz, kk0, kk1, kk2, kk3, ↓two_true, ↓two_false, oS_some, oM_some, mkv, aggAt, Nat.reduceLeDiff, Nat.reduceSub, Nat.reduceMul, implies_true, Nat.reduceEqDiff, reduceIte, Nat.reduceAdd, Nat.reduceBEq, reduceCtorEq, al45, ld45, ld77, st45, rd_own b_a0_H11, rd_own b_a0_H12, rd_own b_a0_H13, rd_own b_a0_H14, rd_own b_a0_H15, rd_own b_w_H11, rd_own b_w_H12, rd_own b_w_H13, rd_own b_w_H14, rd_own b_w_H15, rd_own b_x0_H11, rd_own b_x0_H12, rd_own b_x0_H13, rd_own b_x0_H14, rd_own b_x0_H15, rd_own b_g_H11, rd_own b_g_H12, rd_own b_g_H13, rd_own b_g_H14, rd_own b_g_H15, d2, bne_self_eq_false]
  refine (toArray_th f_a0 hs0).mono ?_
  rintro _ H16 ⟨⟨z0a, z0c, z0b, z0d, rfl, nl⟩, hK16⟩
  have L16 := ext_len hK16
  have f_a0 := f_a0.ext hK16
  have f_w := f_w.ext hK16
  have f_g := f_g.ext hK16
  have b_a0_H16 := (b_a0_H15).ext hK16
  have b_w_H16 := (b_w_H15).ext hK16
  have b_x0_H16 := (b_x0_H15).ext hK16
  have b_g_H16 := (b_g_H15).ext hK16
  have f_z0 := (nl).ok.1
  have r_z0 := (nl).ok.2
  simp -implicitDefEqProofs only [kz, kk0, kk1, kk2, kk3, ↓two_true, ↓two_false, oS_some, oM_some, mkv, aggAt, Nat.reduceLeDiff, Nat.reduceSub, Nat.reduceMul, implies_true, Nat.reduceEqDiff, reduceIte, Nat.reduceAdd, Nat.reduceBEq, reduceCtorEq, al45, ld45, ld77, st45, rd_own b_a0_H12, rd_own b_a0_H13, rd_own b_a0_H14, rd_own b_a0_H15, rd_own b_a0_H16, rd_own b_w_H12, rd_own b_w_H13, rd_own b_w_H14, rd_own b_w_H15, rd_own b_w_H16, rd_own b_x0_H12, rd_own b_x0_H13, rd_own b_x0_H14, rd_own b_x0_H15, rd_own b_x0_H16, rd_own b_g_H12, rd_own b_g_H13, rd_own b_g_H14, rd_own b_g_H15, rd_own b_g_H16]
  refine (implGrade_u hR f_z0.rd (by omega)).mono ?_
  rintro _ H17 ⟨⟨ha, hc, hb, hd, rfl, nl⟩, hK17⟩
  have L17 := ext_len hK17
  have f_a0 := f_a0.ext hK17
  have f_w := f_w.ext hK17
  have f_g := f_g.ext hK17
  have f_z0 := f_z0.ext hK17
  have b_a0_H17 := (b_a0_H16).ext hK17
  have b_w_H17 := (b_w_H16).ext hK17
  have b_x0_H17 := (b_x0_H16).ext hK17
  have b_g_H17 := (b_g_H16).ext hK17
  have f_h := (nl).ok.1
  have r_h := (nl).ok.2
  simp -implicitDefEqProofs only [kz, kk0, kk1, kk2, kk3, ↓two_true, ↓two_false, oS_some, oM_some, mkv, aggAt, Nat.reduceLeDiff, Nat.reduceSub, Nat.reduceMul, implies_true, Nat.reduceEqDiff, reduceIte, Nat.reduceAdd, Nat.reduceBEq, reduceCtorEq, al45, ld45, ld77, st45, rd_own b_a0_H13, rd_own b_a0_H14, rd_own b_a0_H15, rd_own b_a0_H16, rd_own b_a0_H17, rd_own b_w_H13, rd_own b_w_H14, rd_own b_w_H15, rd_own b_w_H16, rd_own b_w_H17, rd_own b_x0_H13, rd_own b_x0_H14, rd_own b_x0_H15, rd_own b_x0_H16, rd_own b_x0_H17, rd_own b_g_H13, rd_own b_g_H14, rd_own b_g_H15, rd_own b_g_H16, rd_own b_g_H17]
  have b_h_H18 := LI.ok.box (H := H17) (cs := [.slice ha R.1.1.length hc, .slice hb R.1.2.length hd])
  have L18 : (H17 ++ [⟨[.slice ha R.1.1.length hc, .slice hb R.1.2.length hd], .own⟩] : AH).length = H17.length + 1 := by simp
  have rb_h : LI.rg H17.length (H17.length + 1) (.blk H17.length ⟨[.slice ha R.1.1.length hc, .slice hb R.1.2.length hd], .own⟩) := fun b hb => by cases hb; omega
  have hX18 : ∃ K, (H17 ++ [⟨[.slice ha R.1.1.length hc, .slice hb R.1.2.length hd], .own⟩] : AH) = H17 ++ K := ⟨_, rfl⟩
  have f_a0 := f_a0.ext hX18
  have f_w := f_w.ext hX18
  have f_g := f_g.ext hX18
  have f_z0 := f_z0.ext hX18
  have f_h := f_h.ext hX18
  have b_a0_H18 := (b_a0_H17).ext hX18
  have b_w_H18 := (b_w_H17).ext hX18
  have b_x0_H18 := (b_x0_H17).ext hX18
  have b_g_H18 := (b_g_H17).ext hX18
  clear hX18
  generalize (H17 ++ [⟨[.slice ha R.1.1.length hc, .slice hb R.1.2.length hd], .own⟩] : AH) = H18 at *
  try simp -implicitDefEqProofs only [kz, kk0, kk1, kk2, kk3, ↓two_true, ↓two_false, oS_some, oM_some, mkv, aggAt, Nat.reduceLeDiff, Nat.reduceSub, Nat.reduceMul, implies_true, Nat.reduceEqDiff, reduceIte, Nat.reduceAdd, Nat.reduceBEq, reduceCtorEq, al45, ld45, ld77, st45, rd_own b_a0_H14, rd_own b_a0_H15, rd_own b_a0_H16, rd_own b_a0_H17, rd_own b_a0_H18, rd_own b_w_H14, rd_own b_w_H15, rd_own b_w_H16, rd_own b_w_H17, rd_own b_w_H18, rd_own b_x0_H14, rd_own b_x0_H15, rd_own b_x0_H16, rd_own b_x0_H17, rd_own b_x0_H18, rd_own b_g_H14, rd_own b_g_H15, rd_own b_g_H16, rd_own b_g_H17, rd_own b_g_H18, rd_own b_h_H18]
  refine (eqArray_th f_h.rd f_w.rd).mono ?_
  rintro _ H19 ⟨rfl, hK19⟩
  have L19 := ext_len hK19
  have f_a0 := f_a0.ext hK19
  have f_w := f_w.ext hK19
  have f_g := f_g.ext hK19
  have f_z0 := f_z0.ext hK19
  have f_h := f_h.ext hK19
  have b_a0_H19 := (b_a0_H18).ext hK19
  have b_w_H19 := (b_w_H18).ext hK19
  have b_x0_H19 := (b_x0_H18).ext hK19
  have b_g_H19 := (b_g_H18).ext hK19
  have b_h_H19 := (b_h_H18).ext hK19
  simp -implicitDefEqProofs only [kz, kk0, kk1, kk2, kk3, ↓two_true, ↓two_false, oS_some, oM_some, mkv, aggAt, Nat.reduceLeDiff, Nat.reduceSub, Nat.reduceMul, implies_true, Nat.reduceEqDiff, reduceIte, Nat.reduceAdd, Nat.reduceBEq, reduceCtorEq, al45, ld45, ld77, st45, rd_own b_a0_H15, rd_own b_a0_H16, rd_own b_a0_H17, rd_own b_a0_H18, rd_own b_a0_H19, rd_own b_w_H15, rd_own b_w_H16, rd_own b_w_H17, rd_own b_w_H18, rd_own b_w_H19, rd_own b_x0_H15, rd_own b_x0_H16, rd_own b_x0_H17, rd_own b_x0_H18, rd_own b_x0_H19, rd_own b_g_H15, rd_own b_g_H16, rd_own b_g_H17, rd_own b_g_H18, rd_own b_g_H19, rd_own b_h_H18, rd_own b_h_H19, beq_self_eq_true, Bool.and_self, Bool.not_true, bne_self_eq_false]
  refine (heldArray_u f_g (by rw [hc3]; omega)).mono ?_
  rintro _ H20 ⟨rfl, hK20⟩
  have L20 := ext_len hK20
  have f_a0 := f_a0.ext hK20
  have f_w := f_w.ext hK20
  have f_g := f_g.ext hK20
  have f_z0 := f_z0.ext hK20
  have f_h := f_h.ext hK20
  have b_a0_H20 := (b_a0_H19).ext hK20
  have b_w_H20 := (b_w_H19).ext hK20
  have b_x0_H20 := (b_x0_H19).ext hK20
  have b_g_H20 := (b_g_H19).ext hK20
  have b_h_H20 := (b_h_H19).ext hK20
  rw [hh]
  simp -implicitDefEqProofs only [kz, kk0, kk1, kk2, kk3, ↓two_true, ↓two_false, oS_some, oM_some, mkv, aggAt, Nat.reduceLeDiff, Nat.reduceSub, Nat.reduceMul, implies_true, Nat.reduceEqDiff, reduceIte, Nat.reduceAdd, Nat.reduceBEq, reduceCtorEq, al45, ld45, ld77, st45, rd_own b_a0_H16, rd_own b_a0_H17, rd_own b_a0_H18, rd_own b_a0_H19, rd_own b_a0_H20, rd_own b_w_H16, rd_own b_w_H17, rd_own b_w_H18, rd_own b_w_H19, rd_own b_w_H20, rd_own b_x0_H16, rd_own b_x0_H17, rd_own b_x0_H18, rd_own b_x0_H19, rd_own b_x0_H20, rd_own b_g_H16, rd_own b_g_H17, rd_own b_g_H18, rd_own b_g_H19, rd_own b_g_H20, rd_own b_h_H18, rd_own b_h_H19, rd_own b_h_H20, d2, bne_self_eq_false]

end Go.Proofs.Ytgekbancaeabgaa.AM
