/- What the functions answer, part 3. -/
import Derived.Test.YtockhdhilemfkaaP2
set_option linter.unusedVariables false
set_option linter.unusedSimpArgs false
set_option linter.defProp false
set_option maxRecDepth 100000
/- What the functions answer, part 3. -/
namespace Go.Proofs.Ytockhdhilemfkaa.AM
open Go Go.Proofs.Ytockhdhilemfkaa Go.Proofs
theorem implEachTwo_ok {H : AH} {s : Int} {pa qa pb qb : Value} {sa da sb db : List Int} (a : AR H pa qa sa da) (b : AR H pb qb sb db) : CallsA Try.prog 51 #[.int .i64 s, .agg #[pa, qa], .agg #[pb, qb]] H fun r H' => Ans1 H H' r (each2R s sa da sb db) := by
  have al := a.l1
  have bl := a.l2
  have al2 := b.l1
  have bl2 := b.l2
  obtain ⟨za, zc, zb, zd, rfl, rfl⟩ := a.o1
  obtain ⟨ya, yc, yb, yd, rfl, rfl⟩ := b.o1
  have q := (LX.nil (H := H))
  refine w51 ?_
  unfold k51
  simp -implicitDefEqProofs only [kz, kk0, kk1, kk2, kk3, ↓two_true, ↓two_false, mkv, aggAt, Nat.reduceLeDiff, Nat.reduceSub, Nat.reduceMul, implies_true, Nat.reduceEqDiff, reduceIte, Nat.reduceAdd, Nat.reduceBEq, reduceCtorEq, al26, ap24_24, bd26, bs24_1, fa26_1, ld24, ld26, st24, st26, twoSign_eq, implTwo_eq]
  refine st_box q fun H1 q1 => ?_
  simp -implicitDefEqProofs only [kz, kk0, kk1, kk2, kk3, ↓two_true, ↓two_false, mkv, aggAt, Nat.reduceLeDiff, Nat.reduceSub, Nat.reduceMul, implies_true, Nat.reduceEqDiff, reduceIte, Nat.reduceAdd, Nat.reduceBEq, reduceCtorEq, al26, ap24_24, bd26, bs24_1, fa26_1, ld24, ld26, st24, st26, twoSign_eq, implTwo_eq, q1.rd 0 rfl]
  refine st_box q1 fun H2 q2 => ?_
  simp -implicitDefEqProofs only [kz, kk0, kk1, kk2, kk3, ↓two_true, ↓two_false, mkv, aggAt, Nat.reduceLeDiff, Nat.reduceSub, Nat.reduceMul, implies_true, Nat.reduceEqDiff, reduceIte, Nat.reduceAdd, Nat.reduceBEq, reduceCtorEq, al26, ap24_24, bd26, bs24_1, fa26_1, ld24, ld26, st24, st26, twoSign_eq, implTwo_eq, q2.rd 0 rfl, q2.rd 1 rfl]
  refine st_box q2 fun H3 q3 => ?_
  simp -implicitDefEqProofs only [kz, kk0, kk1, kk2, kk3, ↓two_true, ↓two_false, mkv, aggAt, Nat.reduceLeDiff, Nat.reduceSub, Nat.reduceMul, implies_true, Nat.reduceEqDiff, reduceIte, Nat.reduceAdd, Nat.reduceBEq, reduceCtorEq, al26, ap24_24, bd26, bs24_1, fa26_1, ld24, ld26, st24, st26, twoSign_eq, implTwo_eq, q3.rd 0 rfl, q3.rd 1 rfl, q3.rd 2 rfl]
  refine (implFit_ok (a.ext q3.ext) (b.ext q3.ext)).mono ?_
  rintro _ H4 ⟨p1, rfl, g1⟩
  have q4 := q3.join g1
  simp only [List.map_cons, List.map_nil, List.cons_append, List.nil_append] at q4
  obtain ⟨a1, c1, rfl⟩ := (q4.own 0 rfl).isSlice
  obtain ⟨S, C, hF⟩ : ∃ S C, fitR sa da sb db = (S, C) := ⟨_, _, rfl⟩
  rw [hF] at q4 ⊢
  simp only at q4 ⊢
  simp -implicitDefEqProofs only [kz, kk0, kk1, kk2, kk3, ↓two_true, ↓two_false, mkv, aggAt, Nat.reduceLeDiff, Nat.reduceSub, Nat.reduceMul, implies_true, Nat.reduceEqDiff, reduceIte, Nat.reduceAdd, Nat.reduceBEq, reduceCtorEq, al26, ap24_24, bd26, bs24_1, fa26_1, ld24, ld26, st24, st26, twoSign_eq, implTwo_eq, q4.rd 1 rfl, q4.rd 2 rfl, q4.rd 3 rfl]
  refine two_intro (fun u1 => ?_) (fun u1 => ?_)
  ·
    have hC : C = 1 := by simpa using u1
    try simp -implicitDefEqProofs only [kz, kk0, kk1, kk2, kk3, ↓two_true, ↓two_false, mkv, aggAt, Nat.reduceLeDiff, Nat.reduceSub, Nat.reduceMul, implies_true, Nat.reduceEqDiff, reduceIte, Nat.reduceAdd, Nat.reduceBEq, reduceCtorEq, al26, ap24_24, bd26, bs24_1, fa26_1, ld24, ld26, st24, st26, twoSign_eq, implTwo_eq, q4.rd 1 rfl, q4.rd 2 rfl, q4.rd 3 rfl]
    refine st_set q4 1 rfl fun H5 q5 => ?_
    simp only [List.set_cons_zero, List.set_cons_succ] at q5
    simp -implicitDefEqProofs only [kz, kk0, kk1, kk2, kk3, ↓two_true, ↓two_false, mkv, aggAt, Nat.reduceLeDiff, Nat.reduceSub, Nat.reduceMul, implies_true, Nat.reduceEqDiff, reduceIte, Nat.reduceAdd, Nat.reduceBEq, reduceCtorEq, al26, ap24_24, bd26, bs24_1, fa26_1, ld24, ld26, st24, st26, twoSign_eq, implTwo_eq, q5.rd 1 rfl, q5.rd 2 rfl, q5.rd 3 rfl]
    -- end1
    refine q5.err ?_
    unfold each2R; rw [show (arrOk sa da && arrOk sb db) = false by
      rcases fitR_cases hF with ⟨_, _, h, _⟩ | ⟨h, _⟩
      · exact absurd hC h
      · exact h]; rfl
  ·
    have hC : C ≠ 1 := by simpa using u1
    have hok : (arrOk sa da && arrOk sb db) = true := by
      rcases fitR_cases hF with ⟨h1, h2, _⟩ | ⟨_, h, _⟩
      · rw [h1, h2]; rfl
      · exact absurd h hC
    try simp -implicitDefEqProofs only [kz, kk0, kk1, kk2, kk3, ↓two_true, ↓two_false, mkv, aggAt, Nat.reduceLeDiff, Nat.reduceSub, Nat.reduceMul, implies_true, Nat.reduceEqDiff, reduceIte, Nat.reduceAdd, Nat.reduceBEq, reduceCtorEq, al26, ap24_24, bd26, bs24_1, fa26_1, ld24, ld26, st24, st26, twoSign_eq, implTwo_eq, q4.rd 1 rfl, q4.rd 2 rfl, q4.rd 3 rfl]
    refine two_intro (fun u2 => ?_) (fun u2 => ?_)
    ·
      try simp -implicitDefEqProofs only [kz, kk0, kk1, kk2, kk3, ↓two_true, ↓two_false, mkv, aggAt, Nat.reduceLeDiff, Nat.reduceSub, Nat.reduceMul, implies_true, Nat.reduceEqDiff, reduceIte, Nat.reduceAdd, Nat.reduceBEq, reduceCtorEq, al26, ap24_24, bd26, bs24_1, fa26_1, ld24, ld26, st24, st26, twoSign_eq, implTwo_eq, q4.rd 1 rfl, q4.rd 2 rfl, q4.rd 3 rfl]
      refine st_set q4 1 rfl fun H6 q6 => ?_
      simp only [List.set_cons_zero, List.set_cons_succ] at q6
      simp -implicitDefEqProofs only [kz, kk0, kk1, kk2, kk3, ↓two_true, ↓two_false, mkv, aggAt, Nat.reduceLeDiff, Nat.reduceSub, Nat.reduceMul, implies_true, Nat.reduceEqDiff, reduceIte, Nat.reduceAdd, Nat.reduceBEq, reduceCtorEq, al26, ap24_24, bd26, bs24_1, fa26_1, ld24, ld26, st24, st26, twoSign_eq, implTwo_eq, q6.rd 1 rfl, q6.rd 2 rfl, q6.rd 3 rfl]
      -- end2
      exact q6.err (by unfold each2R; rw [show sg2 s = false by simpa using u2, Bool.and_false]; rfl)
    ·
      have v3 : sg2 s = true := by simpa using u2
      try simp -implicitDefEqProofs only [kz, kk0, kk1, kk2, kk3, ↓two_true, ↓two_false, mkv, aggAt, Nat.reduceLeDiff, Nat.reduceSub, Nat.reduceMul, implies_true, Nat.reduceEqDiff, reduceIte, Nat.reduceAdd, Nat.reduceBEq, reduceCtorEq, al26, ap24_24, bd26, bs24_1, fa26_1, ld24, ld26, st24, st26, twoSign_eq, implTwo_eq, q4.rd 1 rfl, q4.rd 2 rfl, q4.rd 3 rfl]
      refine two_intro (fun u3 => ?_) (fun u3 => ?_)
      ·
        have hC0 : C ≠ 0 := by simpa using u3
        try simp -implicitDefEqProofs only [kz, kk0, kk1, kk2, kk3, ↓two_true, ↓two_false, mkv, aggAt, Nat.reduceLeDiff, Nat.reduceSub, Nat.reduceMul, implies_true, Nat.reduceEqDiff, reduceIte, Nat.reduceAdd, Nat.reduceBEq, reduceCtorEq, al26, ap24_24, bd26, bs24_1, fa26_1, ld24, ld26, st24, st26, twoSign_eq, implTwo_eq, q4.rd 1 rfl, q4.rd 2 rfl, q4.rd 3 rfl]
        refine st_set q4 1 rfl fun H7 q7 => ?_
        simp only [List.set_cons_zero, List.set_cons_succ] at q7
        simp -implicitDefEqProofs only [kz, kk0, kk1, kk2, kk3, ↓two_true, ↓two_false, mkv, aggAt, Nat.reduceLeDiff, Nat.reduceSub, Nat.reduceMul, implies_true, Nat.reduceEqDiff, reduceIte, Nat.reduceAdd, Nat.reduceBEq, reduceCtorEq, al26, ap24_24, bd26, bs24_1, fa26_1, ld24, ld26, st24, st26, twoSign_eq, implTwo_eq, q7.rd 1 rfl, q7.rd 2 rfl, q7.rd 3 rfl]
        -- end3
        exact q7.err (by unfold each2R; rw [hok, v3, hF]; exact if_neg hC0)
      ·
        have hC0 : C = 0 := by simpa using u3
        subst hC0
        obtain ⟨v1, v2, n, hsz, hn3, hpos, hna, hnb, hS3⟩ := fitR_ok hF
        try simp -implicitDefEqProofs only [kz, kk0, kk1, kk2, kk3, ↓two_true, ↓two_false, mkv, aggAt, Nat.reduceLeDiff, Nat.reduceSub, Nat.reduceMul, implies_true, Nat.reduceEqDiff, reduceIte, Nat.reduceAdd, Nat.reduceBEq, reduceCtorEq, al26, ap24_24, bd26, bs24_1, fa26_1, ld24, ld26, st24, st26, twoSign_eq, implTwo_eq, q4.rd 1 rfl, q4.rd 2 rfl, q4.rd 3 rfl]
        try simp -implicitDefEqProofs only [kz, kk0, kk1, kk2, kk3, ↓two_true, ↓two_false, mkv, aggAt, Nat.reduceLeDiff, Nat.reduceSub, Nat.reduceMul, implies_true, Nat.reduceEqDiff, reduceIte, Nat.reduceAdd, Nat.reduceBEq, reduceCtorEq, al26, ap24_24, bd26, bs24_1, fa26_1, ld24, ld26, st24, st26, twoSign_eq, implTwo_eq, q4.rd 1 rfl, q4.rd 2 rfl, q4.rd 3 rfl]
        refine st_box q4 fun H8 q8 => ?_
        simp -implicitDefEqProofs only [kz, kk0, kk1, kk2, kk3, ↓two_true, ↓two_false, mkv, aggAt, Nat.reduceLeDiff, Nat.reduceSub, Nat.reduceMul, implies_true, Nat.reduceEqDiff, reduceIte, Nat.reduceAdd, Nat.reduceBEq, reduceCtorEq, al26, ap24_24, bd26, bs24_1, fa26_1, ld24, ld26, st24, st26, twoSign_eq, implTwo_eq, q8.rd 0 rfl, q8.rd 2 rfl, q8.rd 3 rfl, q8.rd 4 rfl]
        refine st_set q8 0 rfl fun H9 q9 => ?_
        simp only [List.set_cons_zero, List.set_cons_succ] at q9
        simp -implicitDefEqProofs only [kz, kk0, kk1, kk2, kk3, ↓two_true, ↓two_false, mkv, aggAt, Nat.reduceLeDiff, Nat.reduceSub, Nat.reduceMul, implies_true, Nat.reduceEqDiff, reduceIte, Nat.reduceAdd, Nat.reduceBEq, reduceCtorEq, al26, ap24_24, bd26, bs24_1, fa26_1, ld24, ld26, st24, st26, twoSign_eq, implTwo_eq, q9.rd 0 rfl, q9.rd 2 rfl, q9.rd 3 rfl, q9.rd 4 rfl]
        have q10 := q9.nil0
        refine rW_loopQ (σ := Nat × Option Addr × Nat) q10 [0, 4, 5, 6, 8, 10] (fun x tm => tm 11 = .int .i64 x.1 ∧ x.1 ≤ n ∧ ∀ k ∈ (List.range n).take x.1, (twoF s (atV sa da k) (atV sb db k)).2 = 0) (fun x L => (L.set 1 (.own (.box H4.length [.slice a1 S.length c1, .slice x.2.1 (each2D s sa da sb db x.1).length x.2.2]))).set 0 (.own (.row (.slice x.2.1 (each2D s sa da sb db x.1).length x.2.2) (each2D s sa da sb db x.1)))) (fun x => n - x.1) (0, none, 0) ⟨rfl, Nat.zero_le _, fun y hy => by simp at hy⟩ rfl ?_
        rintro ⟨i, av, cv⟩ tm1 H10 ⟨h1, h2, h3, h4, h5, h6, -⟩ ⟨ki, hi, hz⟩ q11
        simp -implicitDefEqProofs only [kz, kk0, kk1, kk2, kk3, ↓two_true, ↓two_false, mkv, aggAt, Nat.reduceLeDiff, Nat.reduceSub, Nat.reduceMul, implies_true, Nat.reduceEqDiff, reduceIte, Nat.reduceAdd, Nat.reduceBEq, reduceCtorEq, al26, ap24_24, bd26, bs24_1, fa26_1, ld24, ld26, st24, st26] at h1 h2 h3 h4 h5 h6
        simp only [List.set_cons_zero, List.set_cons_succ] at q11
        simp only at ki hi hz
        have wi := IntWalk.i64_in ((i : Int) + 1) (by omega)
        have es1 := fun Φ => (implSizeOf_ok (q11.int 2 rfl) (by omega)).eq0 (Φ := Φ)
        simp -implicitDefEqProofs only [kz, kk0, kk1, kk2, kk3, ↓two_true, ↓two_false, mkv, aggAt, Nat.reduceLeDiff, Nat.reduceSub, Nat.reduceMul, implies_true, Nat.reduceEqDiff, reduceIte, Nat.reduceAdd, Nat.reduceBEq, reduceCtorEq, al26, ap24_24, bd26, bs24_1, fa26_1, ld24, ld26, st24, st26, twoSign_eq, implTwo_eq, es1, h1, h2, h3, h4, h5, h6, ki, wi, hsz, q11.rd 1 rfl, q11.rd 3 rfl, q11.rd 4 rfl, q11.rd 5 rfl]
        refine two_intro (fun u4 => ?_) (fun u4 => ?_)
        ·
          have hc : i < n := by simpa using u4
          have hp := hpos (by omega)
          have hlen : (each2D s sa da sb db i).length ≤ 300 := by rw [each2D_len]; omega
          try simp -implicitDefEqProofs only [kz, kk0, kk1, kk2, kk3, ↓two_true, ↓two_false, mkv, aggAt, Nat.reduceLeDiff, Nat.reduceSub, Nat.reduceMul, implies_true, Nat.reduceEqDiff, reduceIte, Nat.reduceAdd, Nat.reduceBEq, reduceCtorEq, al26, ap24_24, bd26, bs24_1, fa26_1, ld24, ld26, st24, st26, twoSign_eq, implTwo_eq, es1, h1, h2, h3, h4, h5, h6, ki, wi, hsz, q11.rd 1 rfl, q11.rd 3 rfl, q11.rd 4 rfl, q11.rd 5 rfl]
          refine (implAt_ok (a.ext q11.ext) hp.1 (fun e => by have := hna e; omega)).mono ?_
          rintro _ H11 ⟨rfl, he1⟩
          have q12 := q11.extd he1
          simp -implicitDefEqProofs only [kz, kk0, kk1, kk2, kk3, ↓two_true, ↓two_false, mkv, aggAt, Nat.reduceLeDiff, Nat.reduceSub, Nat.reduceMul, implies_true, Nat.reduceEqDiff, reduceIte, Nat.reduceAdd, Nat.reduceBEq, reduceCtorEq, al26, ap24_24, bd26, bs24_1, fa26_1, ld24, ld26, st24, st26, twoSign_eq, implTwo_eq, es1, h1, h2, h3, h4, h5, h6, ki, wi, hsz, q12.rd 1 rfl, q12.rd 3 rfl, q12.rd 4 rfl, q12.rd 5 rfl, q11.rd 1 rfl, q11.rd 3 rfl, q11.rd 4 rfl, q11.rd 5 rfl]
          refine (implAt_ok (b.ext q12.ext) hp.2 (fun e => by have := hnb e; omega)).mono ?_
          rintro _ H12 ⟨rfl, he2⟩
          have q13 := q12.extd he2
          simp -implicitDefEqProofs only [kz, kk0, kk1, kk2, kk3, ↓two_true, ↓two_false, mkv, aggAt, Nat.reduceLeDiff, Nat.reduceSub, Nat.reduceMul, implies_true, Nat.reduceEqDiff, reduceIte, Nat.reduceAdd, Nat.reduceBEq, reduceCtorEq, al26, ap24_24, bd26, bs24_1, fa26_1, ld24, ld26, st24, st26, twoSign_eq, implTwo_eq, es1, h1, h2, h3, h4, h5, h6, ki, wi, hsz, q13.rd 1 rfl, q13.rd 3 rfl, q13.rd 4 rfl, q13.rd 5 rfl, q11.rd 1 rfl, q11.rd 3 rfl, q11.rd 4 rfl, q11.rd 5 rfl, q12.rd 1 rfl, q12.rd 3 rfl, q12.rd 4 rfl, q12.rd 5 rfl]
          try simp -implicitDefEqProofs only [kz, kk0, kk1, kk2, kk3, ↓two_true, ↓two_false, mkv, aggAt, Nat.reduceLeDiff, Nat.reduceSub, Nat.reduceMul, implies_true, Nat.reduceEqDiff, reduceIte, Nat.reduceAdd, Nat.reduceBEq, reduceCtorEq, al26, ap24_24, bd26, bs24_1, fa26_1, ld24, ld26, st24, st26, twoSign_eq, implTwo_eq, es1, h1, h2, h3, h4, h5, h6, ki, wi, hsz, q13.rd 1 rfl, q13.rd 3 rfl, q13.rd 4 rfl, q13.rd 5 rfl]
          refine two_intro (fun u5 => ?_) (fun u5 => ?_)
          ·
            have hne : (twoF s (atV sa da i) (atV sb db i)).2 ≠ 0 := by simpa using u5
            have hfl : each2C s sa da sb db n = (twoF s (atV sa da i) (atV sb db i)).2 := by
              unfold each2C
              have := firstC_at (l := List.range n) (f := fun i => (twoF s (atV sa da i) (atV sb db i)).2) (i := i) (by simpa using hc) hz (by simpa using hne)
              rw [this, List.getElem_range]
            try simp -implicitDefEqProofs only [kz, kk0, kk1, kk2, kk3, ↓two_true, ↓two_false, mkv, aggAt, Nat.reduceLeDiff, Nat.reduceSub, Nat.reduceMul, implies_true, Nat.reduceEqDiff, reduceIte, Nat.reduceAdd, Nat.reduceBEq, reduceCtorEq, al26, ap24_24, bd26, bs24_1, fa26_1, ld24, ld26, st24, st26, twoSign_eq, implTwo_eq, es1, h1, h2, h3, h4, h5, h6, ki, wi, hsz, q13.rd 1 rfl, q13.rd 3 rfl, q13.rd 4 rfl, q13.rd 5 rfl]
            refine st_set q13 3 rfl fun H13 q14 => ?_
            simp only [List.set_cons_zero, List.set_cons_succ] at q14
            simp -implicitDefEqProofs only [kz, kk0, kk1, kk2, kk3, ↓two_true, ↓two_false, mkv, aggAt, Nat.reduceLeDiff, Nat.reduceSub, Nat.reduceMul, implies_true, Nat.reduceEqDiff, reduceIte, Nat.reduceAdd, Nat.reduceBEq, reduceCtorEq, al26, ap24_24, bd26, bs24_1, fa26_1, ld24, ld26, st24, st26, twoSign_eq, implTwo_eq, es1, h1, h2, h3, h4, h5, h6, ki, wi, hsz, q14.rd 1 rfl, q14.rd 3 rfl, q14.rd 4 rfl, q14.rd 5 rfl]
            -- end4
            exact q14.err (by unfold each2R; rw [v1, v2, v3, hF]; simp only [Bool.and_self, if_true, hsz, Int.toNat_natCast, hfl]; exact if_neg hne)
          ·
            have hz1 : (twoF s (atV sa da i) (atV sb db i)).2 = 0 := by simpa using u5
            try simp -implicitDefEqProofs only [kz, kk0, kk1, kk2, kk3, ↓two_true, ↓two_false, mkv, aggAt, Nat.reduceLeDiff, Nat.reduceSub, Nat.reduceMul, implies_true, Nat.reduceEqDiff, reduceIte, Nat.reduceAdd, Nat.reduceBEq, reduceCtorEq, al26, ap24_24, bd26, bs24_1, fa26_1, ld24, ld26, st24, st26, twoSign_eq, implTwo_eq, es1, h1, h2, h3, h4, h5, h6, ki, wi, hsz, q13.rd 1 rfl, q13.rd 3 rfl, q13.rd 4 rfl, q13.rd 5 rfl]
            refine st_lit [_] rfl rfl q13 fun H14 q15 => ?_
            simp -implicitDefEqProofs only [kz, kk0, kk1, kk2, kk3, ↓two_true, ↓two_false, mkv, aggAt, Nat.reduceLeDiff, Nat.reduceSub, Nat.reduceMul, implies_true, Nat.reduceEqDiff, reduceIte, Nat.reduceAdd, Nat.reduceBEq, reduceCtorEq, al26, ap24_24, bd26, bs24_1, fa26_1, ld24, ld26, st24, st26, twoSign_eq, implTwo_eq, es1, h1, h2, h3, h4, h5, h6, ki, wi, hsz, q15.rd 2 rfl, q15.rd 4 rfl, q15.rd 5 rfl, q15.rd 6 rfl]
            refine st_app q15 1 rfl (q15.int 0 rfl) (by (try simp only [List.length_cons, List.length_nil, List.length_append, List.length_replicate, List.length_map, List.length_take, List.length_drop]); omega) fun a2 c2 H15 q16 => ?_
            simp only [List.set_cons_zero, List.set_cons_succ, List.length_nil, List.length_cons, Nat.zero_add, List.nil_append] at q16 ⊢
            simp -implicitDefEqProofs only [kz, kk0, kk1, kk2, kk3, ↓two_true, ↓two_false, mkv, aggAt, Nat.reduceLeDiff, Nat.reduceSub, Nat.reduceMul, implies_true, Nat.reduceEqDiff, reduceIte, Nat.reduceAdd, Nat.reduceBEq, reduceCtorEq, al26, ap24_24, bd26, bs24_1, fa26_1, ld24, ld26, st24, st26, twoSign_eq, implTwo_eq, es1, h1, h2, h3, h4, h5, h6, ki, wi, hsz, q16.rd 2 rfl, q16.rd 4 rfl, q16.rd 5 rfl, q16.rd 6 rfl]
            refine st_set q16 2 rfl fun H16 q17 => ?_
            simp only [List.set_cons_zero, List.set_cons_succ] at q17
            simp -implicitDefEqProofs only [kz, kk0, kk1, kk2, kk3, ↓two_true, ↓two_false, mkv, aggAt, Nat.reduceLeDiff, Nat.reduceSub, Nat.reduceMul, implies_true, Nat.reduceEqDiff, reduceIte, Nat.reduceAdd, Nat.reduceBEq, reduceCtorEq, al26, ap24_24, bd26, bs24_1, fa26_1, ld24, ld26, st24, st26, twoSign_eq, implTwo_eq, es1, h1, h2, h3, h4, h5, h6, ki, wi, hsz, q17.rd 2 rfl, q17.rd 4 rfl, q17.rd 5 rfl, q17.rd 6 rfl]
            -- back loop1
            refine ⟨(i + 1, a2, c2), (by simp only; omega), ⟨rfl, rfl, rfl, rfl, rfl, rfl, trivial⟩, ⟨by first | rfl | simp, hc, fun k hk => by
              rcases mem_take_succ (l := List.range n) (by simpa using hc) hk with h | h
              · exact hz k h
              · rw [h, List.getElem_range]; exact hz1⟩, ?_⟩
            simp only [List.set_cons_zero, List.set_cons_succ, each2D_step, List.length_append, List.length_cons, List.length_nil, Nat.zero_add]
            exact q17.pick [1, 2, 3, 4, 5, 6] _ rfl (by decide)
        ·
          have hil : i = n := Nat.le_antisymm hi (Nat.not_lt.1 (by simpa using u4))
          subst hil
          rw [List.take_of_length_le (by simp)] at hz
          try simp -implicitDefEqProofs only [kz, kk0, kk1, kk2, kk3, ↓two_true, ↓two_false, mkv, aggAt, Nat.reduceLeDiff, Nat.reduceSub, Nat.reduceMul, implies_true, Nat.reduceEqDiff, reduceIte, Nat.reduceAdd, Nat.reduceBEq, reduceCtorEq, al26, ap24_24, bd26, bs24_1, fa26_1, ld24, ld26, st24, st26, twoSign_eq, implTwo_eq, es1, h1, h2, h3, h4, h5, h6, ki, wi, hsz, q11.rd 1 rfl, q11.rd 3 rfl, q11.rd 4 rfl, q11.rd 5 rfl]
          refine st_set q11 3 rfl fun H17 q18 => ?_
          simp only [List.set_cons_zero, List.set_cons_succ] at q18
          simp -implicitDefEqProofs only [kz, kk0, kk1, kk2, kk3, ↓two_true, ↓two_false, mkv, aggAt, Nat.reduceLeDiff, Nat.reduceSub, Nat.reduceMul, implies_true, Nat.reduceEqDiff, reduceIte, Nat.reduceAdd, Nat.reduceBEq, reduceCtorEq, al26, ap24_24, bd26, bs24_1, fa26_1, ld24, ld26, st24, st26, twoSign_eq, implTwo_eq, es1, h1, h2, h3, h4, h5, h6, ki, wi, hsz, q18.rd 1 rfl, q18.rd 3 rfl, q18.rd 4 rfl, q18.rd 5 rfl]
          -- end5
          exact q18.ans 2 0 (by decide) rfl rfl (by unfold each2R; rw [v1, v2, v3, hF]; simp only [Bool.and_self, if_true, hsz, Int.toNat_natCast]; exact if_pos (by unfold each2C; exact firstC_no hz))

def neuF (s : Int) : Int × Bool := if s = 43 ∨ s = 45 ∨ s = 124 ∨ s = 60 ∨ s = 62 then (0, true) else if s = 42 ∨ s = 37 ∨ s = 61 then (1, true) else if s = 38 then (1000000000000, true) else if s = 94 then (-1000000000000, true) else (0, false)
theorem neuF_num {s : Int} : numOk (neuF s).1 = true := by
  unfold neuF
  repeat' split
  all_goals decide

theorem implNeutral_ok (s : Int) (H : AH) : CallsA Try.prog 149 #[.int .i64 s] H fun r H' => r = .tuple #[.int .i64 (neuF s).1, .bool (neuF s).2] ∧ H' = H := by
  refine w149 ?_
  unfold k149 neuF
  simp -implicitDefEqProofs only [kz, kk0, kk1, kk2, kk3, ↓two_true, ↓two_false, oS_some, oM_some, mkv, aggAt, Nat.reduceLeDiff, Nat.reduceSub, Nat.reduceMul, implies_true, Nat.reduceEqDiff, reduceIte, Nat.reduceAdd, Nat.reduceBEq, reduceCtorEq]
  simp +contextual [two]
theorem implNeutral_eq {s : Int} {H : AH} {Φ : Value → AH → Prop} : CallsA Try.prog 149 #[.int .i64 s] H Φ = Φ (.tuple #[.int .i64 (neuF s).1, .bool (neuF s).2]) H := (implNeutral_ok s H).eq0

theorem twoF_num {s a b : Int} : numOk (twoF s a b).1 = true := by
  unfold twoF
  repeat' split
  all_goals first | decide | assumption
def redS (s : Int) (r : List Int × List Int) (acc : (List Int × List Int) × Int) : (List Int × List Int) × Int := if acc.2 = 0 then each2R s r.1 r.2 acc.1.1 acc.1.2 else acc
def redL (s : Int) : List (List Int × List Int) → (List Int × List Int) × Int
  | [] => (([], []), 0)
  | [r] => (r, 0)
  | r :: r2 :: rs => redS s r (redL s (r2 :: rs))
def redR (s : Int) (rs : List (List Int × List Int)) (sh : List Int) : (List Int × List Int) × Int := if rs.length = 0 then ((sh, List.replicate (sizeI sh).toNat (neuF s).1), 0) else redL s rs
theorem redL_drop {s : Int} {rs : List (List Int × List Int)} {k : Nat} (h : k + 1 < rs.length) : redL s (rs.drop k) = redS s (rs[k]'(by omega)) (redL s (rs.drop (k + 1))) := by
  have e1 : rs.drop k = rs[k]'(by omega) :: rs[k + 1] :: rs.drop (k + 2) := by
    rw [List.drop_eq_getElem_cons (by omega), List.drop_eq_getElem_cons h]
  have e2 : rs.drop (k + 1) = rs[k + 1] :: rs.drop (k + 2) := List.drop_eq_getElem_cons h
  rw [e1, e2]; rfl
theorem redL_last {s : Int} {rs : List (List Int × List Int)} (h : 0 < rs.length) : redL s (rs.drop (rs.length - 1)) = (rs[rs.length - 1]'(by omega), 0) := by
  have e1 : rs.drop (rs.length - 1) = [rs[rs.length - 1]'(by omega)] := by
    rw [List.drop_eq_getElem_cons (by omega), List.drop_eq_nil_of_le (by omega)]
  rw [e1]; rfl
theorem redL_err {s : Int} {rs : List (List Int × List Int)} {k : Nat} (hk : k < rs.length) (h : (redL s (rs.drop k)).2 ≠ 0) : redL s rs = redL s (rs.drop k) := by
  induction k with
  | zero => simp
  | succ k ih =>
    have e := redL_drop (s := s) hk
    unfold redS at e
    rw [if_neg h] at e
    rw [← e] at h ⊢
    exact ih (by omega) h
theorem each2R_err {s : Int} {sa da sb db : List Int} (h : (each2R s sa da sb db).2 ≠ 0) : (each2R s sa da sb db).1 = ([], []) := by
  unfold each2R at h ⊢
  repeat' split
  all_goals first | rfl | skip
  rename_i h1 h2 h3
  rw [if_pos h1, if_pos h2, if_pos h3] at h
  exact absurd rfl h
theorem each2R_ok {s : Int} {sa da sb db : List Int} {R : (List Int × List Int) × Int} (h : each2R s sa da sb db = R) (h0 : R.2 = 0) : arrOk sa da = true ∧ arrOk sb db = true ∧ sg2 s = true ∧ arrOk R.1.1 R.1.2 = true ∧ R.1.1.length ≤ 3 ∧ R.1.2.length ≤ 300 ∧ fitR sa da sb db = (R.1.1, 0) ∧ R.1.2 = each2D s sa da sb db R.1.2.length := by
  unfold each2R at h
  split at h
  · rename_i h1
    simp only [Bool.and_eq_true] at h1
    split at h
    · rename_i h2
      split at h
      · obtain ⟨S, C, hF⟩ : ∃ S C, fitR sa da sb db = (S, C) := ⟨_, _, rfl⟩
        rw [hF] at h h2
        simp only at h2
        subst h2
        obtain ⟨_, _, n, hn, hn3, _, _, _, hS⟩ := fitR_ok hF
        subst h
        simp only [hn, Int.toNat_natCast, each2D_len]
        refine ⟨h1.1.1, h1.1.2, h1.2, ?_, hS, hn3, hF, trivial⟩
        unfold arrOk
        simp only [hn, each2D_len, beq_self_eq_true, Bool.true_and]
        refine List.all_eq_true.2 fun y hy => ?_
        unfold each2D at hy
        obtain ⟨i, _, rfl⟩ := List.mem_map.1 hy
        exact twoF_num
      · rename_i h3; subst h; exact absurd h0 h3
    · rename_i h2; subst h; exact absurd h0 h2
  · subst h; exact absurd h0 (by decide)
theorem each2R_lim {s : Int} {sa da sb db : List Int} {R : (List Int × List Int) × Int} (h : each2R s sa da sb db = R) : R.1.1.length ≤ 300 ∧ R.1.2.length ≤ 300 := by
  by_cases h0 : R.2 = 0
  · obtain ⟨_, _, _, _, h1, h2, _⟩ := each2R_ok h h0
    omega
  · subst h
    rw [each2R_err h0]; simp

theorem arrOk_neu {s : Int} {sh : List Int} (h : 0 ≤ sizeI sh) : arrOk sh (List.replicate (sizeI sh).toNat (neuF s).1) = true := by
  unfold arrOk
  simp only [List.length_replicate, Bool.and_eq_true, beq_iff_eq]
  refine ⟨by omega, List.all_eq_true.2 fun y hy => ?_⟩
  rw [List.eq_of_mem_replicate hy]; exact neuF_num

theorem implReduced_ok {H : AH} {s : Int} {v w : Value} {rs : List (List Int × List Int)} {sh : List Int} (r : RowsA H v rs) (h : IntRow H w sh) (l1 : rs.length ≤ 1048576) (l2 : sh.length ≤ 1048575) (hrl : ∀ r ∈ rs, r.1.length ≤ 1048576 ∧ r.2.length ≤ 1048576) (hsz : rs.length = 0 → 0 ≤ sizeI sh) : CallsA Try.prog 79 #[.int .i64 s, v, w] H fun r H' => Ans1 H H' r (redR s rs sh) := by
  have r0 := r
  obtain ⟨ra, rc, rfl, -⟩ := r0
  obtain ⟨wa, wc, rfl, -⟩ := h.op
  have hsl := sizeI_le (l := sh)
  have q := (LX.nil (H := H))
  refine w79 ?_
  unfold k79
  simp -implicitDefEqProofs only [kz, kk0, kk1, kk2, kk3, ↓two_true, ↓two_false, mkv, aggAt, Nat.reduceLeDiff, Nat.reduceSub, Nat.reduceMul, implies_true, Nat.reduceEqDiff, reduceIte, Nat.reduceAdd, Nat.reduceBEq, reduceCtorEq, al26, ap24_24, bd26, bs24_1, fa26_1, ix86, ld24, ld26, ln86, st24, st26, implNeutral_eq]
  refine st_box q fun H1 q1 => ?_
  simp -implicitDefEqProofs only [kz, kk0, kk1, kk2, kk3, ↓two_true, ↓two_false, mkv, aggAt, Nat.reduceLeDiff, Nat.reduceSub, Nat.reduceMul, implies_true, Nat.reduceEqDiff, reduceIte, Nat.reduceAdd, Nat.reduceBEq, reduceCtorEq, al26, ap24_24, bd26, bs24_1, fa26_1, ix86, ld24, ld26, ln86, st24, st26, implNeutral_eq, q1.rd 0 rfl]
  refine two_intro (fun u1 => ?_) (fun u1 => ?_)
  ·
    have hr0 : rs.length = 0 := by simpa using u1
    try simp -implicitDefEqProofs only [kz, kk0, kk1, kk2, kk3, ↓two_true, ↓two_false, mkv, aggAt, Nat.reduceLeDiff, Nat.reduceSub, Nat.reduceMul, implies_true, Nat.reduceEqDiff, reduceIte, Nat.reduceAdd, Nat.reduceBEq, reduceCtorEq, al26, ap24_24, bd26, bs24_1, fa26_1, ix86, ld24, ld26, ln86, st24, st26, implNeutral_eq, q1.rd 0 rfl]
    have q2 := q1.nil0
    refine st_app q2 0 rfl (h.ext q2.ext) (by (try simp only [List.length_cons, List.length_nil, List.length_append, List.length_replicate, List.length_map, List.length_take, List.length_drop]); omega) fun a1 c1 H2 q3 => ?_
    simp only [List.set_cons_zero, List.set_cons_succ, List.length_nil, List.length_cons, Nat.zero_add, List.nil_append] at q3 ⊢
    simp -implicitDefEqProofs only [kz, kk0, kk1, kk2, kk3, ↓two_true, ↓two_false, mkv, aggAt, Nat.reduceLeDiff, Nat.reduceSub, Nat.reduceMul, implies_true, Nat.reduceEqDiff, reduceIte, Nat.reduceAdd, Nat.reduceBEq, reduceCtorEq, al26, ap24_24, bd26, bs24_1, fa26_1, ix86, ld24, ld26, ln86, st24, st26, implNeutral_eq, q3.rd 1 rfl]
    try simp -implicitDefEqProofs only [kz, kk0, kk1, kk2, kk3, ↓two_true, ↓two_false, mkv, aggAt, Nat.reduceLeDiff, Nat.reduceSub, Nat.reduceMul, implies_true, Nat.reduceEqDiff, reduceIte, Nat.reduceAdd, Nat.reduceBEq, reduceCtorEq, al26, ap24_24, bd26, bs24_1, fa26_1, ix86, ld24, ld26, ln86, st24, st26, implNeutral_eq, q3.rd 1 rfl]
    refine st_box q3 fun H3 q4 => ?_
    simp -implicitDefEqProofs only [kz, kk0, kk1, kk2, kk3, ↓two_true, ↓two_false, mkv, aggAt, Nat.reduceLeDiff, Nat.reduceSub, Nat.reduceMul, implies_true, Nat.reduceEqDiff, reduceIte, Nat.reduceAdd, Nat.reduceBEq, reduceCtorEq, al26, ap24_24, bd26, bs24_1, fa26_1, ix86, ld24, ld26, ln86, st24, st26, implNeutral_eq, q4.rd 0 rfl, q4.rd 2 rfl]
    refine st_set q4 0 rfl fun H4 q5 => ?_
    simp only [List.set_cons_zero, List.set_cons_succ] at q5
    simp -implicitDefEqProofs only [kz, kk0, kk1, kk2, kk3, ↓two_true, ↓two_false, mkv, aggAt, Nat.reduceLeDiff, Nat.reduceSub, Nat.reduceMul, implies_true, Nat.reduceEqDiff, reduceIte, Nat.reduceAdd, Nat.reduceBEq, reduceCtorEq, al26, ap24_24, bd26, bs24_1, fa26_1, ix86, ld24, ld26, ln86, st24, st26, implNeutral_eq, q5.rd 0 rfl, q5.rd 2 rfl]
    have q6 := q5.nil0
    refine rW_loopQ (σ := Nat × Option Addr × Nat) q6 [2, 6, 7, 8, 10] (fun x tm => tm 11 = .int .i64 x.1 ∧ x.1 ≤ (sizeI sh).toNat) (fun x L => (L.set 1 (.own (.box H2.length [.slice a1 sh.length c1, .slice x.2.1 (List.replicate x.1 (neuF s).1).length x.2.2]))).set 0 (.own (.row (.slice x.2.1 (List.replicate x.1 (neuF s).1).length x.2.2) (List.replicate x.1 (neuF s).1)))) (fun x => (sizeI sh).toNat - x.1) (0, none, 0) ⟨rfl, Nat.zero_le _⟩ rfl ?_
    rintro ⟨i, av, cv⟩ tm1 H5 ⟨h1, h2, h3, h4, h5, -⟩ ⟨ki, hi⟩ q7
    simp -implicitDefEqProofs only [kz, kk0, kk1, kk2, kk3, ↓two_true, ↓two_false, mkv, aggAt, Nat.reduceLeDiff, Nat.reduceSub, Nat.reduceMul, implies_true, Nat.reduceEqDiff, reduceIte, Nat.reduceAdd, Nat.reduceBEq, reduceCtorEq, al26, ap24_24, bd26, bs24_1, fa26_1, ix86, ld24, ld26, ln86, st24, st26] at h1 h2 h3 h4 h5
    simp only [List.set_cons_zero, List.set_cons_succ] at q7
    simp only at ki hi
    have wi := IntWalk.i64_in ((i : Int) + 1) (by omega)
    have es1 := fun Φ => (implSizeOf_ok (h.ext q7.ext) (by omega)).eq0 (Φ := Φ)
    simp -implicitDefEqProofs only [kz, kk0, kk1, kk2, kk3, ↓two_true, ↓two_false, mkv, aggAt, Nat.reduceLeDiff, Nat.reduceSub, Nat.reduceMul, implies_true, Nat.reduceEqDiff, reduceIte, Nat.reduceAdd, Nat.reduceBEq, reduceCtorEq, al26, ap24_24, bd26, bs24_1, fa26_1, ix86, ld24, ld26, ln86, st24, st26, implNeutral_eq, es1, h1, h2, h3, h4, h5, ki, wi, q7.rd 1 rfl, q7.rd 3 rfl]
    refine two_intro (fun u2 => ?_) (fun u2 => ?_)
    ·
      have hc : (i : Int) < sizeI sh := by simpa using u2
      try simp -implicitDefEqProofs only [kz, kk0, kk1, kk2, kk3, ↓two_true, ↓two_false, mkv, aggAt, Nat.reduceLeDiff, Nat.reduceSub, Nat.reduceMul, implies_true, Nat.reduceEqDiff, reduceIte, Nat.reduceAdd, Nat.reduceBEq, reduceCtorEq, al26, ap24_24, bd26, bs24_1, fa26_1, ix86, ld24, ld26, ln86, st24, st26, implNeutral_eq, es1, h1, h2, h3, h4, h5, ki, wi, q7.rd 1 rfl, q7.rd 3 rfl]
      refine st_lit [_] rfl rfl q7 fun H6 q8 => ?_
      simp -implicitDefEqProofs only [kz, kk0, kk1, kk2, kk3, ↓two_true, ↓two_false, mkv, aggAt, Nat.reduceLeDiff, Nat.reduceSub, Nat.reduceMul, implies_true, Nat.reduceEqDiff, reduceIte, Nat.reduceAdd, Nat.reduceBEq, reduceCtorEq, al26, ap24_24, bd26, bs24_1, fa26_1, ix86, ld24, ld26, ln86, st24, st26, implNeutral_eq, es1, h1, h2, h3, h4, h5, ki, wi, q8.rd 2 rfl, q8.rd 4 rfl]
      refine st_app q8 1 rfl (q8.int 0 rfl) (by (try simp only [List.length_cons, List.length_nil, List.length_append, List.length_replicate, List.length_map, List.length_take, List.length_drop]); omega) fun a2 c2 H7 q9 => ?_
      simp only [List.set_cons_zero, List.set_cons_succ, List.length_nil, List.length_cons, Nat.zero_add, List.nil_append] at q9 ⊢
      simp -implicitDefEqProofs only [kz, kk0, kk1, kk2, kk3, ↓two_true, ↓two_false, mkv, aggAt, Nat.reduceLeDiff, Nat.reduceSub, Nat.reduceMul, implies_true, Nat.reduceEqDiff, reduceIte, Nat.reduceAdd, Nat.reduceBEq, reduceCtorEq, al26, ap24_24, bd26, bs24_1, fa26_1, ix86, ld24, ld26, ln86, st24, st26, implNeutral_eq, es1, h1, h2, h3, h4, h5, ki, wi, q9.rd 2 rfl, q9.rd 4 rfl]
      refine st_set q9 2 rfl fun H8 q10 => ?_
      simp only [List.set_cons_zero, List.set_cons_succ] at q10
      simp -implicitDefEqProofs only [kz, kk0, kk1, kk2, kk3, ↓two_true, ↓two_false, mkv, aggAt, Nat.reduceLeDiff, Nat.reduceSub, Nat.reduceMul, implies_true, Nat.reduceEqDiff, reduceIte, Nat.reduceAdd, Nat.reduceBEq, reduceCtorEq, al26, ap24_24, bd26, bs24_1, fa26_1, ix86, ld24, ld26, ln86, st24, st26, implNeutral_eq, es1, h1, h2, h3, h4, h5, ki, wi, q10.rd 2 rfl, q10.rd 4 rfl]
      -- back loop1
      refine ⟨(i + 1, a2, c2), (by simp only; omega), ⟨rfl, rfl, rfl, rfl, rfl, trivial⟩, ⟨by first | rfl | simp, by simp only; omega⟩, ?_⟩
      simp only [List.set_cons_zero, List.set_cons_succ, List.replicate_succ', List.length_append, List.length_cons, List.length_nil, Nat.zero_add]
      exact q10.pick [1, 2, 3, 4] _ rfl (by decide)
    ·
      have hil : i = (sizeI sh).toNat := by have : ¬ (i : Int) < sizeI sh := (by simpa using u2); omega
      subst hil
      try simp -implicitDefEqProofs only [kz, kk0, kk1, kk2, kk3, ↓two_true, ↓two_false, mkv, aggAt, Nat.reduceLeDiff, Nat.reduceSub, Nat.reduceMul, implies_true, Nat.reduceEqDiff, reduceIte, Nat.reduceAdd, Nat.reduceBEq, reduceCtorEq, al26, ap24_24, bd26, bs24_1, fa26_1, ix86, ld24, ld26, ln86, st24, st26, implNeutral_eq, es1, h1, h2, h3, h4, h5, ki, wi, q7.rd 1 rfl, q7.rd 3 rfl]
      refine (implOk_ar (q7.ar 2 0 rfl rfl (by (try simp only [List.length_cons, List.length_nil, List.length_append, List.length_replicate, List.length_map, List.length_take, List.length_drop]); omega) (by (try simp only [List.length_cons, List.length_nil, List.length_append, List.length_replicate, List.length_map, List.length_take, List.length_drop]); omega))).mono ?_
      rintro _ H9 ⟨rfl, he1⟩
      have q11 := q7.extd he1
      simp -implicitDefEqProofs only [kz, kk0, kk1, kk2, kk3, ↓two_true, ↓two_false, mkv, aggAt, Nat.reduceLeDiff, Nat.reduceSub, Nat.reduceMul, implies_true, Nat.reduceEqDiff, reduceIte, Nat.reduceAdd, Nat.reduceBEq, reduceCtorEq, al26, ap24_24, bd26, bs24_1, fa26_1, ix86, ld24, ld26, ln86, st24, st26, implNeutral_eq, es1, h1, h2, h3, h4, h5, ki, wi, q11.rd 1 rfl, q11.rd 3 rfl]
      refine two_intro (fun u3 => ?_) (fun u3 => ?_)
      ·
        try simp -implicitDefEqProofs only [kz, kk0, kk1, kk2, kk3, ↓two_true, ↓two_false, mkv, aggAt, Nat.reduceLeDiff, Nat.reduceSub, Nat.reduceMul, implies_true, Nat.reduceEqDiff, reduceIte, Nat.reduceAdd, Nat.reduceBEq, reduceCtorEq, al26, ap24_24, bd26, bs24_1, fa26_1, ix86, ld24, ld26, ln86, st24, st26, implNeutral_eq, es1, h1, h2, h3, h4, h5, ki, wi, q11.rd 1 rfl, q11.rd 3 rfl]
        refine st_set q11 3 rfl fun H10 q12 => ?_
        simp only [List.set_cons_zero, List.set_cons_succ] at q12
        simp -implicitDefEqProofs only [kz, kk0, kk1, kk2, kk3, ↓two_true, ↓two_false, mkv, aggAt, Nat.reduceLeDiff, Nat.reduceSub, Nat.reduceMul, implies_true, Nat.reduceEqDiff, reduceIte, Nat.reduceAdd, Nat.reduceBEq, reduceCtorEq, al26, ap24_24, bd26, bs24_1, fa26_1, ix86, ld24, ld26, ln86, st24, st26, implNeutral_eq, es1, h1, h2, h3, h4, h5, ki, wi, q12.rd 1 rfl, q12.rd 3 rfl]
        -- end1
        exfalso
        rw [arrOk_neu (hsz hr0)] at u3
        cases u3
      ·
        try simp -implicitDefEqProofs only [kz, kk0, kk1, kk2, kk3, ↓two_true, ↓two_false, mkv, aggAt, Nat.reduceLeDiff, Nat.reduceSub, Nat.reduceMul, implies_true, Nat.reduceEqDiff, reduceIte, Nat.reduceAdd, Nat.reduceBEq, reduceCtorEq, al26, ap24_24, bd26, bs24_1, fa26_1, ix86, ld24, ld26, ln86, st24, st26, implNeutral_eq, es1, h1, h2, h3, h4, h5, ki, wi, q11.rd 1 rfl, q11.rd 3 rfl]
        refine st_set q11 3 rfl fun H11 q13 => ?_
        simp only [List.set_cons_zero, List.set_cons_succ] at q13
        simp -implicitDefEqProofs only [kz, kk0, kk1, kk2, kk3, ↓two_true, ↓two_false, mkv, aggAt, Nat.reduceLeDiff, Nat.reduceSub, Nat.reduceMul, implies_true, Nat.reduceEqDiff, reduceIte, Nat.reduceAdd, Nat.reduceBEq, reduceCtorEq, al26, ap24_24, bd26, bs24_1, fa26_1, ix86, ld24, ld26, ln86, st24, st26, implNeutral_eq, es1, h1, h2, h3, h4, h5, ki, wi, q13.rd 1 rfl, q13.rd 3 rfl]
        -- end2
        exact q13.ans 2 0 (by decide) rfl rfl (by unfold redR; rw [if_pos hr0])
  ·
    have hr0 : rs.length ≠ 0 := by simpa using u1
    have hr1 : 0 < rs.length := by omega
    obtain ⟨n, hn⟩ : ∃ n, rs.length = n + 1 := ⟨rs.length - 1, by omega⟩
    have w1 : IntKind.i64.wrap ((rs.length : Int) - 1) = (n : Int) := by rw [IntWalk.i64_in _ (by omega)]; omega
    have w2 : IntKind.i64.wrap ((rs.length : Int) - 2) = (n : Int) - 1 := by rw [IntWalk.i64_in _ (by omega)]; omega
    obtain ⟨b1, o1, cs1, p1, p2, ei1, fr1, fc1, fc2, fi1, fi2⟩ := ixR r (i := n) (by omega)
    obtain ⟨a3, c3, rfl, -⟩ := fi1.op
    obtain ⟨a4, c4, rfl, -⟩ := fi2.op
    try simp -implicitDefEqProofs only [kz, kk0, kk1, kk2, kk3, ↓two_true, ↓two_false, mkv, aggAt, Nat.reduceLeDiff, Nat.reduceSub, Nat.reduceMul, implies_true, Nat.reduceEqDiff, reduceIte, Nat.reduceAdd, Nat.reduceBEq, reduceCtorEq, al26, ap24_24, bd26, bs24_1, fa26_1, ix86, ld24, ld26, ln86, st24, st26, implNeutral_eq, w1, w2, ei1, rd_ext fr1 q1.ext, fc1, fc2, ldA2 fc1 fc2, q1.rd 0 rfl]
    refine (copyA_ok (AR.mk (fi1.ext q1.ext) (fi2.ext q1.ext) (hrl _ (List.getElem_mem _)).1 (hrl _ (List.getElem_mem _)).2)).mono ?_
    rintro _ H12 ⟨p3, p4, rfl, g1⟩
    have q14 := q1.join g1
    simp only [List.map_cons, List.map_nil, List.cons_append, List.nil_append] at q14
    obtain ⟨a5, c5, rfl⟩ := (q14.own 0 rfl).isSlice
    obtain ⟨a6, c6, rfl⟩ := (q14.own 1 rfl).isSlice
    simp -implicitDefEqProofs only [kz, kk0, kk1, kk2, kk3, ↓two_true, ↓two_false, mkv, aggAt, Nat.reduceLeDiff, Nat.reduceSub, Nat.reduceMul, implies_true, Nat.reduceEqDiff, reduceIte, Nat.reduceAdd, Nat.reduceBEq, reduceCtorEq, al26, ap24_24, bd26, bs24_1, fa26_1, ix86, ld24, ld26, ln86, st24, st26, implNeutral_eq, w1, w2, ei1, rd_ext fr1 q14.ext, fc1, fc2, ldA2 fc1 fc2, q14.rd 2 rfl]
    try simp -implicitDefEqProofs only [kz, kk0, kk1, kk2, kk3, ↓two_true, ↓two_false, mkv, aggAt, Nat.reduceLeDiff, Nat.reduceSub, Nat.reduceMul, implies_true, Nat.reduceEqDiff, reduceIte, Nat.reduceAdd, Nat.reduceBEq, reduceCtorEq, al26, ap24_24, bd26, bs24_1, fa26_1, ix86, ld24, ld26, ln86, st24, st26, implNeutral_eq, w1, w2, ei1, rd_ext fr1 q14.ext, fc1, fc2, ldA2 fc1 fc2, q14.rd 2 rfl]
    refine st_box q14 fun H13 q15 => ?_
    simp -implicitDefEqProofs only [kz, kk0, kk1, kk2, kk3, ↓two_true, ↓two_false, mkv, aggAt, Nat.reduceLeDiff, Nat.reduceSub, Nat.reduceMul, implies_true, Nat.reduceEqDiff, reduceIte, Nat.reduceAdd, Nat.reduceBEq, reduceCtorEq, al26, ap24_24, bd26, bs24_1, fa26_1, ix86, ld24, ld26, ln86, st24, st26, implNeutral_eq, w1, w2, ei1, rd_ext fr1 q15.ext, fc1, fc2, ldA2 fc1 fc2, q15.rd 0 rfl, q15.rd 3 rfl]
    refine st_set q15 0 rfl fun H14 q16 => ?_
    simp only [List.set_cons_zero, List.set_cons_succ] at q16
    simp -implicitDefEqProofs only [kz, kk0, kk1, kk2, kk3, ↓two_true, ↓two_false, mkv, aggAt, Nat.reduceLeDiff, Nat.reduceSub, Nat.reduceMul, implies_true, Nat.reduceEqDiff, reduceIte, Nat.reduceAdd, Nat.reduceBEq, reduceCtorEq, al26, ap24_24, bd26, bs24_1, fa26_1, ix86, ld24, ld26, ln86, st24, st26, implNeutral_eq, w1, w2, ei1, rd_ext fr1 q16.ext, fc1, fc2, ldA2 fc1 fc2, q16.rd 0 rfl, q16.rd 3 rfl]
    refine rW_loopQ (σ := Nat × (List Int × List Int) × (Option Addr × Nat) × (Option Addr × Nat)) q16 [0, 1, 6, 12] (fun x tm => tm 13 = .int .i64 ((x.1 : Int) - 1) ∧ x.1 < rs.length ∧ redL s (rs.drop x.1) = (x.2.1, 0) ∧ x.2.1.1.length ≤ 1048576 ∧ x.2.1.2.length ≤ 1048576) (fun x L => ((L.set 0 (.own (.box H12.length [.slice x.2.2.1.1 x.2.1.1.length x.2.2.1.2, .slice x.2.2.2.1 x.2.1.2.length x.2.2.2.2]))).set 1 (.own (.row (.slice x.2.2.1.1 x.2.1.1.length x.2.2.1.2) x.2.1.1))).set 2 (.own (.row (.slice x.2.2.2.1 x.2.1.2.length x.2.2.2.2) x.2.1.2))) (fun x => x.1) (n, rs[n], (a5, c5), (a6, c6)) ⟨rfl, by simp only; omega, by have := redL_last (s := s) hr1; simpa [hn] using this, (hrl _ (List.getElem_mem _)).1, (hrl _ (List.getElem_mem _)).2⟩ rfl ?_
    rintro ⟨k, ⟨S, D⟩, ⟨av, cv⟩, aw, cw⟩ tm2 H15 ⟨h6, h7, h8, h9, -⟩ ⟨ki, hk1, hred, hS1, hD1⟩ q17
    simp -implicitDefEqProofs only [kz, kk0, kk1, kk2, kk3, ↓two_true, ↓two_false, mkv, aggAt, Nat.reduceLeDiff, Nat.reduceSub, Nat.reduceMul, implies_true, Nat.reduceEqDiff, reduceIte, Nat.reduceAdd, Nat.reduceBEq, reduceCtorEq, al26, ap24_24, bd26, bs24_1, fa26_1, ix86, ld24, ld26, ln86, st24, st26, w1, w2, ei1, rd_ext fr1 q16.ext, fc1, fc2, ldA2 fc1 fc2] at h6 h7 h8 h9
    simp only [List.set_cons_zero, List.set_cons_succ] at q17
    simp only at ki hk1 hred hS1 hD1
    simp -implicitDefEqProofs only [kz, kk0, kk1, kk2, kk3, ↓two_true, ↓two_false, mkv, aggAt, Nat.reduceLeDiff, Nat.reduceSub, Nat.reduceMul, implies_true, Nat.reduceEqDiff, reduceIte, Nat.reduceAdd, Nat.reduceBEq, reduceCtorEq, al26, ap24_24, bd26, bs24_1, fa26_1, ix86, ld24, ld26, ln86, st24, st26, implNeutral_eq, w1, w2, ei1, rd_ext fr1 q17.ext, fc1, fc2, ldA2 fc1 fc2, h6, h7, h8, h9, ki, q17.rd 0 rfl, q17.rd 3 rfl]
    refine two_intro (fun u4 => ?_) (fun u4 => ?_)
    ·
      have hk : 0 ≤ (k : Int) - 1 := by simpa using u4
      obtain ⟨j, rfl⟩ : ∃ j, k = j + 1 := ⟨k - 1, by omega⟩
      have e1 : ((j + 1 : Nat) : Int) - 1 = (j : Int) := by omega
      have wj : IntKind.i64.wrap ((j : Int) - 1) = (j : Int) - 1 := IntWalk.i64_in _ (by omega)
      have hjn : j < rs.length := by omega
      obtain ⟨b2, o2, cs2, p5, p6, ei2, fr2, fc3, fc4, fi3, fi4⟩ := ixR r hjn
      obtain ⟨a7, c7, rfl, -⟩ := fi3.op
      obtain ⟨a8, c8, rfl, -⟩ := fi4.op
      try simp -implicitDefEqProofs only [kz, kk0, kk1, kk2, kk3, ↓two_true, ↓two_false, mkv, aggAt, Nat.reduceLeDiff, Nat.reduceSub, Nat.reduceMul, implies_true, Nat.reduceEqDiff, reduceIte, Nat.reduceAdd, Nat.reduceBEq, reduceCtorEq, al26, ap24_24, bd26, bs24_1, fa26_1, ix86, ld24, ld26, ln86, st24, st26, implNeutral_eq, w1, w2, ei1, rd_ext fr1 q17.ext, fc1, fc2, ldA2 fc1 fc2, ei2, rd_ext fr2 q17.ext, fc3, fc4, ldA2 fc3 fc4, h6, h7, h8, h9, ki, e1, wj, q17.rd 0 rfl, q17.rd 3 rfl]
      refine (implEachTwo_ok  (AR.mk (fi3.ext q17.ext) (fi4.ext q17.ext) (hrl _ (List.getElem_mem _)).1 (hrl _ (List.getElem_mem _)).2) (q17.ar 1 2 rfl rfl (by (try simp only [List.length_cons, List.length_nil, List.length_append, List.length_replicate, List.length_map, List.length_take, List.length_drop]); omega) (by (try simp only [List.length_cons, List.length_nil, List.length_append, List.length_replicate, List.length_map, List.length_take, List.length_drop]); omega))).mono ?_
      rintro _ H16 ⟨p7, p8, rfl, g2⟩
      obtain ⟨R1, hR1⟩ : ∃ R, each2R s rs[j].1 rs[j].2 S D = R := ⟨_, rfl⟩
      rw [hR1] at g2 ⊢
      have q18 := q17.join g2
      simp only [List.map_cons, List.map_nil, List.cons_append, List.nil_append] at q18
      obtain ⟨a9, c9, rfl⟩ := (q18.own 0 rfl).isSlice
      obtain ⟨a10, c10, rfl⟩ := (q18.own 1 rfl).isSlice
      obtain ⟨hl1, hl2⟩ := each2R_lim hR1
      simp -implicitDefEqProofs only [kz, kk0, kk1, kk2, kk3, ↓two_true, ↓two_false, mkv, aggAt, Nat.reduceLeDiff, Nat.reduceSub, Nat.reduceMul, implies_true, Nat.reduceEqDiff, reduceIte, Nat.reduceAdd, Nat.reduceBEq, reduceCtorEq, al26, ap24_24, bd26, bs24_1, fa26_1, ix86, ld24, ld26, ln86, st24, st26, implNeutral_eq, w1, w2, ei1, rd_ext fr1 q18.ext, fc1, fc2, ldA2 fc1 fc2, ei2, rd_ext fr2 q18.ext, fc3, fc4, ldA2 fc3 fc4, h6, h7, h8, h9, ki, e1, wj, q18.rd 2 rfl, q18.rd 5 rfl, q17.rd 0 rfl, q17.rd 3 rfl]
      refine st_box q18 fun H17 q19 => ?_
      simp -implicitDefEqProofs only [kz, kk0, kk1, kk2, kk3, ↓two_true, ↓two_false, mkv, aggAt, Nat.reduceLeDiff, Nat.reduceSub, Nat.reduceMul, implies_true, Nat.reduceEqDiff, reduceIte, Nat.reduceAdd, Nat.reduceBEq, reduceCtorEq, al26, ap24_24, bd26, bs24_1, fa26_1, ix86, ld24, ld26, ln86, st24, st26, implNeutral_eq, w1, w2, ei1, rd_ext fr1 q19.ext, fc1, fc2, ldA2 fc1 fc2, ei2, rd_ext fr2 q19.ext, fc3, fc4, ldA2 fc3 fc4, h6, h7, h8, h9, ki, e1, wj, q19.rd 0 rfl, q19.rd 3 rfl, q19.rd 6 rfl, q17.rd 0 rfl, q17.rd 3 rfl, q18.rd 2 rfl, q18.rd 5 rfl]
      refine st_set q19 0 rfl fun H18 q20 => ?_
      simp only [List.set_cons_zero, List.set_cons_succ] at q20
      simp -implicitDefEqProofs only [kz, kk0, kk1, kk2, kk3, ↓two_true, ↓two_false, mkv, aggAt, Nat.reduceLeDiff, Nat.reduceSub, Nat.reduceMul, implies_true, Nat.reduceEqDiff, reduceIte, Nat.reduceAdd, Nat.reduceBEq, reduceCtorEq, al26, ap24_24, bd26, bs24_1, fa26_1, ix86, ld24, ld26, ln86, st24, st26, implNeutral_eq, w1, w2, ei1, rd_ext fr1 q20.ext, fc1, fc2, ldA2 fc1 fc2, ei2, rd_ext fr2 q20.ext, fc3, fc4, ldA2 fc3 fc4, h6, h7, h8, h9, ki, e1, wj, q20.rd 0 rfl, q20.rd 3 rfl, q20.rd 6 rfl, q17.rd 0 rfl, q17.rd 3 rfl, q18.rd 2 rfl, q18.rd 5 rfl, q19.rd 0 rfl, q19.rd 3 rfl, q19.rd 6 rfl]
      try simp -implicitDefEqProofs only [kz, kk0, kk1, kk2, kk3, ↓two_true, ↓two_false, mkv, aggAt, Nat.reduceLeDiff, Nat.reduceSub, Nat.reduceMul, implies_true, Nat.reduceEqDiff, reduceIte, Nat.reduceAdd, Nat.reduceBEq, reduceCtorEq, al26, ap24_24, bd26, bs24_1, fa26_1, ix86, ld24, ld26, ln86, st24, st26, implNeutral_eq, w1, w2, ei1, rd_ext fr1 q20.ext, fc1, fc2, ldA2 fc1 fc2, ei2, rd_ext fr2 q20.ext, fc3, fc4, ldA2 fc3 fc4, h6, h7, h8, h9, ki, e1, wj, q20.rd 0 rfl, q20.rd 3 rfl, q20.rd 6 rfl]
      refine two_intro (fun u5 => ?_) (fun u5 => ?_)
      ·
        have hne : R1.2 ≠ 0 := by simpa using u5
        have hst := redL_drop (s := s) (rs := rs) (k := j) hk1
        rw [hred] at hst
        unfold redS at hst
        rw [if_pos rfl, hR1] at hst
        have hfin := redL_err (s := s) hjn (by rw [hst]; exact hne)
        rw [hst] at hfin
        have h12 := each2R_err (s := s) (sa := rs[j].1) (da := rs[j].2) (sb := S) (db := D) (by rw [hR1]; exact hne)
        rw [hR1] at h12
        try simp -implicitDefEqProofs only [kz, kk0, kk1, kk2, kk3, ↓two_true, ↓two_false, mkv, aggAt, Nat.reduceLeDiff, Nat.reduceSub, Nat.reduceMul, implies_true, Nat.reduceEqDiff, reduceIte, Nat.reduceAdd, Nat.reduceBEq, reduceCtorEq, al26, ap24_24, bd26, bs24_1, fa26_1, ix86, ld24, ld26, ln86, st24, st26, implNeutral_eq, w1, w2, ei1, rd_ext fr1 q20.ext, fc1, fc2, ldA2 fc1 fc2, ei2, rd_ext fr2 q20.ext, fc3, fc4, ldA2 fc3 fc4, h6, h7, h8, h9, ki, e1, wj, q20.rd 0 rfl, q20.rd 3 rfl, q20.rd 6 rfl]
        refine st_set q20 6 rfl fun H19 q21 => ?_
        simp only [List.set_cons_zero, List.set_cons_succ] at q21
        simp -implicitDefEqProofs only [kz, kk0, kk1, kk2, kk3, ↓two_true, ↓two_false, mkv, aggAt, Nat.reduceLeDiff, Nat.reduceSub, Nat.reduceMul, implies_true, Nat.reduceEqDiff, reduceIte, Nat.reduceAdd, Nat.reduceBEq, reduceCtorEq, al26, ap24_24, bd26, bs24_1, fa26_1, ix86, ld24, ld26, ln86, st24, st26, implNeutral_eq, w1, w2, ei1, rd_ext fr1 q21.ext, fc1, fc2, ldA2 fc1 fc2, ei2, rd_ext fr2 q21.ext, fc3, fc4, ldA2 fc3 fc4, h6, h7, h8, h9, ki, e1, wj, q21.rd 0 rfl, q21.rd 3 rfl, q21.rd 6 rfl]
        -- end3
        exact q21.err (by unfold redR; rw [if_neg hr0, hfin]; exact Prod.ext h12 rfl)
      ·
        have hz : R1.2 = 0 := by simpa using u5
        have hst := redL_drop (s := s) (rs := rs) (k := j) hk1
        rw [hred] at hst
        unfold redS at hst
        rw [if_pos rfl, hR1] at hst
        try simp -implicitDefEqProofs only [kz, kk0, kk1, kk2, kk3, ↓two_true, ↓two_false, mkv, aggAt, Nat.reduceLeDiff, Nat.reduceSub, Nat.reduceMul, implies_true, Nat.reduceEqDiff, reduceIte, Nat.reduceAdd, Nat.reduceBEq, reduceCtorEq, al26, ap24_24, bd26, bs24_1, fa26_1, ix86, ld24, ld26, ln86, st24, st26, implNeutral_eq, w1, w2, ei1, rd_ext fr1 q20.ext, fc1, fc2, ldA2 fc1 fc2, ei2, rd_ext fr2 q20.ext, fc3, fc4, ldA2 fc3 fc4, h6, h7, h8, h9, ki, e1, wj, q20.rd 0 rfl, q20.rd 3 rfl, q20.rd 6 rfl]
        refine st_set q20 3 rfl fun H20 q22 => ?_
        simp only [List.set_cons_zero, List.set_cons_succ] at q22
        simp -implicitDefEqProofs only [kz, kk0, kk1, kk2, kk3, ↓two_true, ↓two_false, mkv, aggAt, Nat.reduceLeDiff, Nat.reduceSub, Nat.reduceMul, implies_true, Nat.reduceEqDiff, reduceIte, Nat.reduceAdd, Nat.reduceBEq, reduceCtorEq, al26, ap24_24, bd26, bs24_1, fa26_1, ix86, ld24, ld26, ln86, st24, st26, implNeutral_eq, w1, w2, ei1, rd_ext fr1 q22.ext, fc1, fc2, ldA2 fc1 fc2, ei2, rd_ext fr2 q22.ext, fc3, fc4, ldA2 fc3 fc4, h6, h7, h8, h9, ki, e1, wj, q22.rd 0 rfl, q22.rd 3 rfl, q22.rd 6 rfl]
        -- back loop2
        refine ⟨(j, R1.1, (a9, c9), (a10, c10)), (by simp only; omega), ⟨rfl, rfl, rfl, rfl, trivial⟩, ⟨rfl, by simp only; omega, by simp only; rw [hst]; exact Prod.ext rfl hz, by simp only; omega, by simp only; omega⟩, ?_⟩
        simp only [List.set_cons_zero, List.set_cons_succ]
        exact q22.pick [3, 1, 2, 6] _ rfl (by decide)
    ·
      have hk0 : k = 0 := by have : ¬ (0 : Int) ≤ (k : Int) - 1 := (by simpa using u4); omega
      subst hk0
      rw [List.drop_zero] at hred
      try simp -implicitDefEqProofs only [kz, kk0, kk1, kk2, kk3, ↓two_true, ↓two_false, mkv, aggAt, Nat.reduceLeDiff, Nat.reduceSub, Nat.reduceMul, implies_true, Nat.reduceEqDiff, reduceIte, Nat.reduceAdd, Nat.reduceBEq, reduceCtorEq, al26, ap24_24, bd26, bs24_1, fa26_1, ix86, ld24, ld26, ln86, st24, st26, implNeutral_eq, w1, w2, ei1, rd_ext fr1 q17.ext, fc1, fc2, ldA2 fc1 fc2, h6, h7, h8, h9, ki, q17.rd 0 rfl, q17.rd 3 rfl]
      refine st_set q17 3 rfl fun H21 q23 => ?_
      simp only [List.set_cons_zero, List.set_cons_succ] at q23
      simp -implicitDefEqProofs only [kz, kk0, kk1, kk2, kk3, ↓two_true, ↓two_false, mkv, aggAt, Nat.reduceLeDiff, Nat.reduceSub, Nat.reduceMul, implies_true, Nat.reduceEqDiff, reduceIte, Nat.reduceAdd, Nat.reduceBEq, reduceCtorEq, al26, ap24_24, bd26, bs24_1, fa26_1, ix86, ld24, ld26, ln86, st24, st26, implNeutral_eq, w1, w2, ei1, rd_ext fr1 q23.ext, fc1, fc2, ldA2 fc1 fc2, h6, h7, h8, h9, ki, q23.rd 0 rfl, q23.rd 3 rfl]
      -- end4
      exact q23.ans 1 2 (by decide) rfl rfl (by unfold redR; rw [if_neg hr0]; exact hred)

def reduceR (s : Int) (sa da : List Int) : (List Int × List Int) × Int := if (arrOk sa da && sg2 s) = true then (if sa.length = 0 then ((sa, da), 0) else redR s (rowsR sa da) sa.tail) else (([], []), 1)
/-- All rows of an array that is right: how long they are. -/
theorem rowsR_lim {sa da : List Int} (h : arrOk sa da = true) (hne : sa.length ≠ 0) : (rowsR sa da).length ≤ 300 ∧ ((rowsR sa da).length : Int) = sa.headD 0 ∧ (∀ r ∈ rowsR sa da, r.1 = sa.tail ∧ r.1.length ≤ 3 ∧ (r.2.length : Int) = sizeI sa.tail ∧ r.2.length ≤ 300 ∧ r.2.all numOk = true) := by
  have hne' : sa ≠ [] := by rintro rfl; exact hne rfl
  have h1 := rowsR_len' h hne'
  refine ⟨?_, h1, fun r hr => ?_⟩
  · obtain ⟨x, tl, e⟩ := List.exists_cons_of_ne_nil hne'
    rw [e] at h h1
    obtain ⟨n, e2, hn, _⟩ := arrOk_rows h
    rw [e]
    rw [rowsR_len e2]; exact hn
  · obtain ⟨i, hi, e⟩ := List.mem_iff_getElem.1 hr
    obtain ⟨e1, e2, e3, e4, e5⟩ := rowsR_row h (List.getElem?_eq_getElem hi)
    rw [e] at e1 e3 e4 e5
    refine ⟨e1, ?_, e3, e5, e4⟩
    rw [e1]
    exact (sizeI_ok e2).1
theorem implReduce_ok {H : AH} {s : Int} {pa qa : Value} {sa da : List Int} (a : AR H pa qa sa da) (hsz : (rowsR sa da).length = 0 → 0 ≤ sizeI sa.tail) : CallsA Try.prog 19 #[.int .i64 s, .agg #[pa, qa]] H fun r H' => Ans1 H H' r (reduceR s sa da) := by
  have al := a.l1
  have bl := a.l2
  obtain ⟨za, zc, zb, zd, rfl, rfl⟩ := a.o1
  have q := (LX.nil (H := H))
  refine w19 ?_
  unfold k19
  simp -implicitDefEqProofs only [kz, kk0, kk1, kk2, kk3, ↓two_true, ↓two_false, mkv, aggAt, Nat.reduceLeDiff, Nat.reduceSub, Nat.reduceMul, implies_true, Nat.reduceEqDiff, reduceIte, Nat.reduceAdd, Nat.reduceBEq, reduceCtorEq, al26, bd26, fa26_0, ld24, ld26, ln24, sn24, sl24, st26, twoSign_eq]
  refine st_box q fun H1 q1 => ?_
  simp -implicitDefEqProofs only [kz, kk0, kk1, kk2, kk3, ↓two_true, ↓two_false, mkv, aggAt, Nat.reduceLeDiff, Nat.reduceSub, Nat.reduceMul, implies_true, Nat.reduceEqDiff, reduceIte, Nat.reduceAdd, Nat.reduceBEq, reduceCtorEq, al26, bd26, fa26_0, ld24, ld26, ln24, sn24, sl24, st26, twoSign_eq, q1.rd 0 rfl]
  refine st_box q1 fun H2 q2 => ?_
  simp -implicitDefEqProofs only [kz, kk0, kk1, kk2, kk3, ↓two_true, ↓two_false, mkv, aggAt, Nat.reduceLeDiff, Nat.reduceSub, Nat.reduceMul, implies_true, Nat.reduceEqDiff, reduceIte, Nat.reduceAdd, Nat.reduceBEq, reduceCtorEq, al26, bd26, fa26_0, ld24, ld26, ln24, sn24, sl24, st26, twoSign_eq, q2.rd 0 rfl, q2.rd 1 rfl]
  refine (implOk_ar (a.ext q2.ext)).mono ?_
  rintro _ H3 ⟨rfl, he1⟩
  have q3 := q2.extd he1
  simp -implicitDefEqProofs only [kz, kk0, kk1, kk2, kk3, ↓two_true, ↓two_false, mkv, aggAt, Nat.reduceLeDiff, Nat.reduceSub, Nat.reduceMul, implies_true, Nat.reduceEqDiff, reduceIte, Nat.reduceAdd, Nat.reduceBEq, reduceCtorEq, al26, bd26, fa26_0, ld24, ld26, ln24, sn24, sl24, st26, twoSign_eq, q3.rd 0 rfl, q3.rd 1 rfl]
  refine two_intro (fun u1 => ?_) (fun u1 => ?_)
  ·
    try simp -implicitDefEqProofs only [kz, kk0, kk1, kk2, kk3, ↓two_true, ↓two_false, mkv, aggAt, Nat.reduceLeDiff, Nat.reduceSub, Nat.reduceMul, implies_true, Nat.reduceEqDiff, reduceIte, Nat.reduceAdd, Nat.reduceBEq, reduceCtorEq, al26, bd26, fa26_0, ld24, ld26, ln24, sn24, sl24, st26, twoSign_eq, q3.rd 0 rfl, q3.rd 1 rfl]
    refine st_set q3 0 rfl fun H4 q4 => ?_
    simp only [List.set_cons_zero, List.set_cons_succ] at q4
    simp -implicitDefEqProofs only [kz, kk0, kk1, kk2, kk3, ↓two_true, ↓two_false, mkv, aggAt, Nat.reduceLeDiff, Nat.reduceSub, Nat.reduceMul, implies_true, Nat.reduceEqDiff, reduceIte, Nat.reduceAdd, Nat.reduceBEq, reduceCtorEq, al26, bd26, fa26_0, ld24, ld26, ln24, sn24, sl24, st26, twoSign_eq, q4.rd 0 rfl, q4.rd 1 rfl]
    -- end1
    exact q4.err (by simp [reduceR, show arrOk sa da = false by simpa using u1])
  ·
    have v1 : arrOk sa da = true := by simpa using u1
    try simp -implicitDefEqProofs only [kz, kk0, kk1, kk2, kk3, ↓two_true, ↓two_false, mkv, aggAt, Nat.reduceLeDiff, Nat.reduceSub, Nat.reduceMul, implies_true, Nat.reduceEqDiff, reduceIte, Nat.reduceAdd, Nat.reduceBEq, reduceCtorEq, al26, bd26, fa26_0, ld24, ld26, ln24, sn24, sl24, st26, twoSign_eq, q3.rd 0 rfl, q3.rd 1 rfl]
    refine two_intro (fun u2 => ?_) (fun u2 => ?_)
    ·
      try simp -implicitDefEqProofs only [kz, kk0, kk1, kk2, kk3, ↓two_true, ↓two_false, mkv, aggAt, Nat.reduceLeDiff, Nat.reduceSub, Nat.reduceMul, implies_true, Nat.reduceEqDiff, reduceIte, Nat.reduceAdd, Nat.reduceBEq, reduceCtorEq, al26, bd26, fa26_0, ld24, ld26, ln24, sn24, sl24, st26, twoSign_eq, q3.rd 0 rfl, q3.rd 1 rfl]
      refine st_set q3 0 rfl fun H5 q5 => ?_
      simp only [List.set_cons_zero, List.set_cons_succ] at q5
      simp -implicitDefEqProofs only [kz, kk0, kk1, kk2, kk3, ↓two_true, ↓two_false, mkv, aggAt, Nat.reduceLeDiff, Nat.reduceSub, Nat.reduceMul, implies_true, Nat.reduceEqDiff, reduceIte, Nat.reduceAdd, Nat.reduceBEq, reduceCtorEq, al26, bd26, fa26_0, ld24, ld26, ln24, sn24, sl24, st26, twoSign_eq, q5.rd 0 rfl, q5.rd 1 rfl]
      -- end2
      exact q5.err (by simp [reduceR, show sg2 s = false by simpa using u2])
    ·
      have v2 : sg2 s = true := by simpa using u2
      try simp -implicitDefEqProofs only [kz, kk0, kk1, kk2, kk3, ↓two_true, ↓two_false, mkv, aggAt, Nat.reduceLeDiff, Nat.reduceSub, Nat.reduceMul, implies_true, Nat.reduceEqDiff, reduceIte, Nat.reduceAdd, Nat.reduceBEq, reduceCtorEq, al26, bd26, fa26_0, ld24, ld26, ln24, sn24, sl24, st26, twoSign_eq, q3.rd 0 rfl, q3.rd 1 rfl]
      refine two_intro (fun u3 => ?_) (fun u3 => ?_)
      ·
        have v3 : sa.length = 0 := by simpa using u3
        try simp -implicitDefEqProofs only [kz, kk0, kk1, kk2, kk3, ↓two_true, ↓two_false, mkv, aggAt, Nat.reduceLeDiff, Nat.reduceSub, Nat.reduceMul, implies_true, Nat.reduceEqDiff, reduceIte, Nat.reduceAdd, Nat.reduceBEq, reduceCtorEq, al26, bd26, fa26_0, ld24, ld26, ln24, sn24, sl24, st26, twoSign_eq, q3.rd 0 rfl, q3.rd 1 rfl]
        refine (copyA_ok (a.ext q3.ext)).mono ?_
        rintro _ H6 ⟨p1, p2, rfl, g1⟩
        have q6 := q3.join g1
        simp only [List.map_cons, List.map_nil, List.cons_append, List.nil_append] at q6
        obtain ⟨a1, c1, rfl⟩ := (q6.own 0 rfl).isSlice
        obtain ⟨a2, c2, rfl⟩ := (q6.own 1 rfl).isSlice
        simp -implicitDefEqProofs only [kz, kk0, kk1, kk2, kk3, ↓two_true, ↓two_false, mkv, aggAt, Nat.reduceLeDiff, Nat.reduceSub, Nat.reduceMul, implies_true, Nat.reduceEqDiff, reduceIte, Nat.reduceAdd, Nat.reduceBEq, reduceCtorEq, al26, bd26, fa26_0, ld24, ld26, ln24, sn24, sl24, st26, twoSign_eq, q6.rd 2 rfl, q6.rd 3 rfl]
        refine st_set q6 2 rfl fun H7 q7 => ?_
        simp only [List.set_cons_zero, List.set_cons_succ] at q7
        simp -implicitDefEqProofs only [kz, kk0, kk1, kk2, kk3, ↓two_true, ↓two_false, mkv, aggAt, Nat.reduceLeDiff, Nat.reduceSub, Nat.reduceMul, implies_true, Nat.reduceEqDiff, reduceIte, Nat.reduceAdd, Nat.reduceBEq, reduceCtorEq, al26, bd26, fa26_0, ld24, ld26, ln24, sn24, sl24, st26, twoSign_eq, q7.rd 2 rfl, q7.rd 3 rfl]
        -- end3
        exact q7.ans 0 1 (by decide) rfl rfl (by unfold reduceR; rw [v1, v2, if_pos (by rfl), if_pos v3])
      ·
        have v3 : sa.length ≠ 0 := by simpa using u3
        obtain ⟨m1, m2, m3⟩ := rowsR_lim v1 v3
        have hsl3 : sa.length ≤ 3 := (sizeI_ok (by have := (arrOk_size v1).1; omega)).1
        have htl : sa.tail.length ≤ 3 := by simp; omega
        try simp -implicitDefEqProofs only [kz, kk0, kk1, kk2, kk3, ↓two_true, ↓two_false, mkv, aggAt, Nat.reduceLeDiff, Nat.reduceSub, Nat.reduceMul, implies_true, Nat.reduceEqDiff, reduceIte, Nat.reduceAdd, Nat.reduceBEq, reduceCtorEq, al26, bd26, fa26_0, ld24, ld26, ln24, sn24, sl24, st26, twoSign_eq, q3.rd 0 rfl, q3.rd 1 rfl]
        refine (implRows_ok (a.ext q3.ext)).mono ?_
        rintro rv1 H8 ⟨⟨ys1, nw1, cv1⟩, he2⟩
        rw [show rowsA sa da = rowsR sa da by unfold rowsA; rw [v1]; rfl] at nw1 cv1
        have q8 := q3.nrows nw1 cv1 he2
        obtain ⟨a3, c3, rfl, -⟩ := (q8.rowsF 0 rfl).1
        obtain ⟨a4, c4, ev1, hv1⟩ := IntRow.tl a.os (by omega)
        simp -implicitDefEqProofs only [kz, kk0, kk1, kk2, kk3, ↓two_true, ↓two_false, mkv, aggAt, Nat.reduceLeDiff, Nat.reduceSub, Nat.reduceMul, implies_true, Nat.reduceEqDiff, reduceIte, Nat.reduceAdd, Nat.reduceBEq, reduceCtorEq, al26, bd26, fa26_0, ld24, ld26, ln24, sn24, sl24, st26, twoSign_eq, ev1, q8.rd 1 rfl, q8.rd 2 rfl, q3.rd 0 rfl, q3.rd 1 rfl]
        refine (implReduced_ok (s := s) (q8.rowsF 0 rfl).1 (hv1.ext q8.ext) (by omega) (by omega) (fun r hr => ⟨by have := (m3 r hr).2.1; omega, by have := (m3 r hr).2.2.2.1; omega⟩) hsz ).mono ?_
        rintro _ H9 ⟨p3, p4, rfl, g2⟩
        obtain ⟨R1, hR1⟩ : ∃ R, redR s (rowsR sa da) sa.tail = R := ⟨_, rfl⟩
        rw [hR1] at g2 ⊢
        have q9 := q8.join g2
        simp only [List.map_cons, List.map_nil, List.cons_append, List.nil_append] at q9
        obtain ⟨a5, c5, rfl⟩ := (q9.own 0 rfl).isSlice
        obtain ⟨a6, c6, rfl⟩ := (q9.own 1 rfl).isSlice
        simp -implicitDefEqProofs only [kz, kk0, kk1, kk2, kk3, ↓two_true, ↓two_false, mkv, aggAt, Nat.reduceLeDiff, Nat.reduceSub, Nat.reduceMul, implies_true, Nat.reduceEqDiff, reduceIte, Nat.reduceAdd, Nat.reduceBEq, reduceCtorEq, al26, bd26, fa26_0, ld24, ld26, ln24, sn24, sl24, st26, twoSign_eq, ev1, q9.rd 3 rfl, q9.rd 4 rfl, q3.rd 0 rfl, q3.rd 1 rfl, q8.rd 1 rfl, q8.rd 2 rfl]
        refine st_set q9 3 rfl fun H10 q10 => ?_
        simp only [List.set_cons_zero, List.set_cons_succ] at q10
        simp -implicitDefEqProofs only [kz, kk0, kk1, kk2, kk3, ↓two_true, ↓two_false, mkv, aggAt, Nat.reduceLeDiff, Nat.reduceSub, Nat.reduceMul, implies_true, Nat.reduceEqDiff, reduceIte, Nat.reduceAdd, Nat.reduceBEq, reduceCtorEq, al26, bd26, fa26_0, ld24, ld26, ln24, sn24, sl24, st26, twoSign_eq, ev1, q10.rd 3 rfl, q10.rd 4 rfl, q3.rd 0 rfl, q3.rd 1 rfl, q8.rd 1 rfl, q8.rd 2 rfl, q9.rd 3 rfl, q9.rd 4 rfl]
        -- end4
        exact q10.ans 0 1 (by decide) rfl rfl (by unfold reduceR; rw [v1, v2, if_pos (by rfl), if_neg v3]; exact hR1)

theorem scan_zero {sa da : List Int} (v1 : arrOk sa da = true) (v3 : sa.length ≠ 0) (h0 : (rowsR sa da).length = 0) : sa = ((0 : Nat) : Int) :: sa.tail ∧ da = [] := by
  obtain ⟨m1, m2, m3⟩ := rowsR_lim v1 v3
  have hsa : sa = sa.headD 0 :: sa.tail := by
    cases sa with
    | nil => exact absurd rfl v3
    | cons x tl => rfl
  rw [h0] at m2
  refine ⟨by rw [m2]; exact hsa, ?_⟩
  have h1 := arrOk_size v1
  obtain ⟨_, _, e⟩ := sizeI_ok (l := sa) (by omega)
  rw [hsa, ← m2, prodI_cons] at e
  refine List.eq_nil_of_length_eq_zero ?_
  have h2 := h1.1
  rw [hsa, ← m2, e] at h2
  simp at h2
  omega
theorem headD_get {l : List Int} (h : 0 < l.length) : l.headD 0 = l[0] := by
  cases l with
  | nil => simp at h
  | cons x l => rfl
theorem sameArray_ok {H : AH} {pa qa pb qb : Value} {sa da sb db : List Int} (a : AR H pa qa sa da) (b : AR H pb qb sb db) : CallsA Try.prog 29 #[.agg #[pa, qa], .agg #[pb, qb]] H fun r H' => r = .bool (sa == sb && da == db) ∧ ∃ K, H' = H ++ K := by
  have al := a.l1
  have bl := a.l2
  obtain ⟨za, zc, zb, zd, rfl, rfl⟩ := a.o1
  obtain ⟨ya, yc, yb, yd, rfl, rfl⟩ := b.o1
  have q := (LX.nil (H := H))
  refine w29 ?_
  unfold k29
  simp -implicitDefEqProofs only [kz, kk0, kk1, kk2, kk3, ↓two_true, ↓two_false, mkv, aggAt, Nat.reduceLeDiff, Nat.reduceSub, Nat.reduceMul, implies_true, Nat.reduceEqDiff, reduceIte, Nat.reduceAdd, Nat.reduceBEq, reduceCtorEq, fa26_0, fa26_1, ld24]
  refine st_box q fun H1 q1 => ?_
  simp -implicitDefEqProofs only [kz, kk0, kk1, kk2, kk3, ↓two_true, ↓two_false, mkv, aggAt, Nat.reduceLeDiff, Nat.reduceSub, Nat.reduceMul, implies_true, Nat.reduceEqDiff, reduceIte, Nat.reduceAdd, Nat.reduceBEq, reduceCtorEq, fa26_0, fa26_1, ld24, q1.rd 0 rfl]
  refine st_box q1 fun H2 q2 => ?_
  have es1 := fun Φ => (sameInts_ok (a.os.ext q2.ext) (b.os.ext q2.ext) (by (try simp only [List.length_cons, List.length_nil, List.length_append, List.length_replicate, List.length_map, List.length_take, List.length_drop]); omega)).eq0 (Φ := Φ)
  simp -implicitDefEqProofs only [kz, kk0, kk1, kk2, kk3, ↓two_true, ↓two_false, mkv, aggAt, Nat.reduceLeDiff, Nat.reduceSub, Nat.reduceMul, implies_true, Nat.reduceEqDiff, reduceIte, Nat.reduceAdd, Nat.reduceBEq, reduceCtorEq, fa26_0, fa26_1, ld24, es1, q2.rd 0 rfl, q2.rd 1 rfl]
  refine two_intro (fun u1 => ?_) (fun u1 => ?_)
  ·
    have es2 := fun Φ => (sameInts_ok (a.od.ext q2.ext) (b.od.ext q2.ext) (by (try simp only [List.length_cons, List.length_nil, List.length_append, List.length_replicate, List.length_map, List.length_take, List.length_drop]); omega)).eq0 (Φ := Φ)
    try simp -implicitDefEqProofs only [kz, kk0, kk1, kk2, kk3, ↓two_true, ↓two_false, mkv, aggAt, Nat.reduceLeDiff, Nat.reduceSub, Nat.reduceMul, implies_true, Nat.reduceEqDiff, reduceIte, Nat.reduceAdd, Nat.reduceBEq, reduceCtorEq, fa26_0, fa26_1, ld24, es1, es2, q2.rd 0 rfl, q2.rd 1 rfl]
    -- end1
    exact ⟨by rw [u1, Bool.true_and], q2.ext⟩
  ·
    try simp -implicitDefEqProofs only [kz, kk0, kk1, kk2, kk3, ↓two_true, ↓two_false, mkv, aggAt, Nat.reduceLeDiff, Nat.reduceSub, Nat.reduceMul, implies_true, Nat.reduceEqDiff, reduceIte, Nat.reduceAdd, Nat.reduceBEq, reduceCtorEq, fa26_0, fa26_1, ld24, es1, q2.rd 0 rfl, q2.rd 1 rfl]
    -- end2
    exact ⟨by rw [u1, Bool.false_and], q2.ext⟩

/-- Reckoned from the last to the first. -/
def redV (s : Int) : List Int → Int × Int
  | [] => (0, 0)
  | [x] => (x, 0)
  | x :: y :: l => if (redV s (y :: l)).2 = 0 then twoF s x (redV s (y :: l)).1 else (0, (redV s (y :: l)).2)
def sclR (R : Int × Int) : (List Int × List Int) × Int := if R.2 = 0 then (([], [R.1]), 0) else (([], []), R.2)
theorem arrOk_scl {x : Int} (h : numOk x = true) : arrOk [] [x] = true := by
  unfold arrOk; simp [h]; decide
theorem each2R_scl {s x y : Int} (hs : sg2 s = true) (hx : numOk x = true) (hy : numOk y = true) : each2R s [] [x] [] [y] = sclR (twoF s x y) := by
  have e1 := arrOk_scl hx
  have e2 := arrOk_scl hy
  have e3 : fitR [] [x] [] [y] = ([], 0) := by unfold fitR; rw [e1, e2]; rfl
  have e4 : (sizeI []).toNat = 1 := by decide
  unfold each2R sclR
  rw [e1, e2, hs, e3]
  simp only [Bool.and_self, if_true, e4]
  have e5 : each2C s [] [x] [] [y] 1 = (twoF s x y).2 := by
    simp [each2C, firstC, atV]
    intro h; exact h.symm
  have e6 : each2D s [] [x] [] [y] 1 = [(twoF s x y).1] := by simp [each2D, atV]
  rw [e5, e6]
theorem redV_num {s : Int} {l : List Int} (hl : l.all numOk = true) (h0 : l ≠ []) : numOk (redV s l).1 = true := by
  induction l with
  | nil => exact absurd rfl h0
  | cons x l ih =>
    cases l with
    | nil => simp only [List.all_cons, Bool.and_eq_true] at hl; exact hl.1
    | cons y l =>
      simp only [redV]
      split
      · exact twoF_num
      · exact (show numOk 0 = true by decide)
theorem redL_scl {s : Int} (hs : sg2 s = true) {l : List Int} (hl : l.all numOk = true) (h0 : l ≠ []) : redL s (l.map fun x => ([], [x])) = sclR (redV s l) := by
  induction l with
  | nil => exact absurd rfl h0
  | cons x l ih =>
    cases l with
    | nil => rfl
    | cons y l =>
      have hl2 := hl
      simp only [List.all_cons, Bool.and_eq_true] at hl
      have e := ih (by simp only [List.all_cons, Bool.and_eq_true]; exact hl.2) (by simp)
      have hn := redV_num (s := s) (l := y :: l) (by simp only [List.all_cons, Bool.and_eq_true]; exact hl.2) (by simp)
      simp only [List.map_cons, redL] at e ⊢
      rw [e]
      unfold redS
      simp only [redV]
      by_cases hz : (redV s (y :: l)).2 = 0
      · rw [if_pos hz]
        unfold sclR
        rw [if_pos hz, if_pos rfl]
        exact each2R_scl hs hl.1 hn
      · rw [if_neg hz]
        unfold sclR
        rw [if_neg hz]
        simp only [if_neg hz]
theorem rowsR_vec {da : List Int} {n : Nat} (h : da.length = n) : rowsR [(n : Int)] da = da.map fun x => ([], [x]) := by
  subst h
  have e : (sizeI []).toNat = 1 := by decide
  show (List.range ((da.length : Int)).toNat).map (fun i => ([], (da.drop (i * (sizeI []).toNat)).take (sizeI []).toNat)) = _
  rw [e, Int.toNat_natCast]
  refine List.ext_getElem (by simp) fun i h1 h2 => ?_
  have hi : i < da.length := by simpa using h2
  simp only [List.getElem_map, List.getElem_range, Nat.mul_one]
  rw [List.drop_eq_getElem_cons hi]
  rfl
theorem reduceR_vec {s : Int} {da : List Int} {n : Nat} (hs : sg2 s = true) (h : da.length = n) (ho : arrOk [(n : Int)] da = true) : reduceR s [(n : Int)] da = if n = 0 then (([], [(neuF s).1]), 0) else sclR (redV s da) := by
  have hd : da.all numOk = true := by unfold arrOk at ho; simp only [Bool.and_eq_true] at ho; exact ho.2
  unfold reduceR
  rw [ho, hs, rowsR_vec h]
  simp only [Bool.and_self, if_true, List.length_singleton, List.tail_cons]
  rw [if_neg (by decide)]
  unfold redR
  rw [List.length_map, h]
  split
  · rfl
  · rename_i h0
    exact redL_scl hs hd (by rintro rfl; simp at h; omega)

theorem l3VectorA_ok {H : AH} {v : Value} {l : List Int} (hv : IntRow H v l) (hl : l.length ≤ 1048576) : CallsA Try.prog 76 #[v] H fun r H' => AnsA H H' r ([(l.length : Int)], l) := l3Vector_ok hv hl

theorem ARes.ans {H H' : AH} {r : Value} {R : (List Int × List Int) × Int} (h : ARes H H' r R) : Ans1 H H' r R := by
  obtain ⟨⟨a, c, b, d, rfl, h1, h2, h3, h4, h5, h6⟩, he⟩ := h
  exact ⟨_, _, rfl, ((LD.nil (H := H)).nrow2 (H' := H') ⟨h2, h5⟩ ⟨h3, h6⟩ h4 he)⟩

def redN (s : Int) (l : List Int) : Int × Int := if l.length = 0 then ((neuF s).1, 0) else redV s l
theorem reduceR_redN {s : Int} {l : List Int} (hs : sg2 s = true) (hn : l.all numOk = true) (hl : l.length ≤ 300) : reduceR s [(l.length : Int)] l = sclR (redN s l) := by
  have ho : arrOk [(l.length : Int)] l = true := by
    unfold arrOk
    simp only [Bool.and_eq_true, beq_iff_eq]
    exact ⟨(sizeI_one hl).symm, hn⟩
  rw [reduceR_vec hs rfl ho]
  unfold redN
  split
  · rfl
  · rfl
theorem sclR_lim {R : Int × Int} : (sclR R).1.1.length ≤ 300 ∧ (sclR R).1.2.length ≤ 300 := by
  unfold sclR; split <;> simp

theorem LB.fz2 {B B' : Nat → Prop} {c : Option Nat} {H0 H : AH} {L : List Ix} {x x' : Ix} (h : LB B c H0 H L) (i : Nat) (hi : L[i]? = some x) (hB : ∀ b, B' b ↔ (B b ∨ (x.bs b ∧ ¬ x'.bs b))) (hx : x'.ok B' H) (hs : ∀ b, x'.bs b → x.bs b) : LB B' c H0 H (L.set i x') := by
  have hil := (List.getElem?_eq_some_iff.1 hi).1
  have get : ∀ (j : Nat) y, (L.set i x')[j]? = some y → (j = i ∧ y = x') ∨ (j ≠ i ∧ L[j]? = some y) := fun j y hy => by
    rcases Nat.decEq i j with e | e
    · rw [List.getElem?_set_ne e] at hy; exact .inr ⟨Ne.symm e, hy⟩
    · subst e; rw [List.getElem?_set_self hil] at hy; cases hy; exact .inl ⟨rfl, rfl⟩
  refine ⟨fun j y hy => ?_, fun j y hy b hb2 => ?_, fun j k y z hne hy hz b e1 e2 => ?_, h.len, h.keep, fun b hb hn => (hB b).2 (.inl (h.b0 b hb hn)), fun b hb => ?_, h.cur, fun cb e j y hy h2 => ?_⟩
  · rcases get j y hy with ⟨rfl, rfl⟩ | ⟨hne, hy⟩
    · exact hx
    · exact (h.ok j y hy).same (fun b _ => rfl) (fun b _ => rfl) fun b hb => (hB b).2 (.inl hb)
  · rcases get j y hy with ⟨rfl, rfl⟩ | ⟨hne, hy⟩
    · refine ⟨fun e => ?_, (h.fr j x hi b (hs b hb2)).2⟩
      rcases (hB b).1 e with e | e
      · exact (h.fr j x hi b (hs b hb2)).1 e
      · exact e.2 hb2
    · refine ⟨fun e => ?_, (h.fr j y hy b hb2).2⟩
      rcases (hB b).1 e with e | e
      · exact (h.fr j y hy b hb2).1 e
      · exact h.dj j i y x hne hy hi b hb2 e.1
  · rcases get j y hy with ⟨rfl, rfl⟩ | ⟨hne1, hy'⟩
    · rcases get k z hz with ⟨rfl, rfl⟩ | ⟨hne2, hz'⟩
      · exact hne rfl
      · exact h.dj j k x z hne hi hz' b (hs b e1) e2
    · rcases get k z hz with ⟨rfl, rfl⟩ | ⟨hne2, hz⟩
      · exact h.dj j k y x hne hy' hi b e1 (hs b e2)
      · exact h.dj j k y z hne hy' hz b e1 e2
  · rcases (hB b).1 hb with e | e
    · exact h.bl b e
    · exact ⟨(h.ok i x hi).lt b e.1, fun e2 => h.nc b e2 i x hi e.1⟩
  · rcases get j y hy with ⟨rfl, rfl⟩ | ⟨hne1, hy'⟩
    · exact h.nc cb e j x hi (hs cb h2)
    · exact h.nc cb e j y hy' h2
theorem LX.tbc {c : Option Nat} {H0 H : AH} {L : List Ix} {v : Value} {ks : List CK} {n : Nat} {xs : List Value} {V : List CV} (h : LX c H0 H L) (i : Nat) (hi : L[i]? = some (.own (.cmp (.row v ks n xs) V))) : LX c H0 H (L.set i (.tab v ks n xs V)) := by
  obtain ⟨B, h⟩ := h
  obtain ⟨h1, h2⟩ := h.ok i _ hi
  have h1 : OT H v ks n xs := h1
  have hd : ∀ b, (∃ y ∈ xs, blkOf y = some b) → ¬ blkOf v = some b := by
    rintro b ⟨y, hy, hb⟩ e
    obtain ⟨j, hj⟩ := List.mem_iff_getElem?.1 hy
    exact h1.out j y hj b e hb
  refine ⟨fun b => B b ∨ ((blkOf v = some b ∨ ∃ y ∈ xs, blkOf y = some b) ∧ ¬ blkOf v = some b), h.fz2 i hi (fun b => Iff.rfl) ⟨⟨h1.len, h1.row, h1.ok, fun y hy b hb => .inr ⟨.inr ⟨y, hy, hb⟩, hd b ⟨y, hy, hb⟩⟩⟩, h2⟩ fun b hb => .inl hb⟩
theorem LX.nrowsO {c0 : Option Nat} {H0 H H' : AH} {L : List Ix} {v : Value} {n : Nat} {ys : List Value} {rs : List (List Int × List Int)} (h : LX c0 H0 H L) (hv : New H H' v [.r, .r] n ys) (hV : cvs H' ys = rowsV rs) (hf : ∃ K, H' = H ++ K) : LX c0 H0 H' (.tab v [.r, .r] n ys (rowsV rs) :: L) := by
  obtain ⟨B, h⟩ := h
  obtain ⟨K, rfl⟩ := hf
  have : LX c0 H0 (H ++ K) (.own (.cmp (.row v [.r, .r] n ys) (rowsV rs)) :: L) :=
    ⟨B, h.add (by simp) (fun b hb _ => List.getElem?_append_left hb) (fun g e => (h.cur g e).mono) ⟨hv.ot, hV⟩ fun b hb => hv.fr b hb⟩
  exact this.tbc 0 rfl
theorem LB.ftW {B : Nat → Prop} {c : Option Nat} {H0 H : AH} {L : List Ix} {w : Value} {ks : List CK} {m : Nat} {ys : List Value} {W : List CV} (h : LB B c H0 H L) (j : Nat) (hj : L[j]? = some (.ftab w ks m ys W)) : FRow H w ks m ys ∧ cvs H ys = W ∧ ∀ y ∈ ys, ∀ b, blkOf y = some b → B b := by
  obtain ⟨t1, t2⟩ := h.ok j _ hj
  exact ⟨t1.fr, t2, fun y hy b hb => t1.base b (.inr ⟨y, hy, hb⟩)⟩
theorem rowsV_app {rs qs : List (List Int × List Int)} : rowsV (rs ++ qs) = rowsV rs ++ rowsV qs := by unfold rowsV; rw [List.flatMap_append]
def asR (sa da : List Int) : List Int := if sa.length = 0 then [(da.length : Int)] else sa
def joinA (sa da sb db : List Int) : (List Int × List Int) × Int :=
  if (arrOk sa da && arrOk sb db) = true then
    (if (asR sa da).length ≠ (asR sb db).length then (([], []), 4) else if ((asR sa da).tail == (asR sb db).tail) = false then (([], []), 3)
     else if arrOk (((asR sa da).headD 0 + (asR sb db).headD 0) :: (asR sa da).tail) (da ++ db) = true then (((((asR sa da).headD 0 + (asR sb db).headD 0) :: (asR sa da).tail), da ++ db), 0) else (([], []), 6))
  else (([], []), 1)
theorem asR_ok {sa da : List Int} (h : arrOk sa da = true) : arrOk (asR sa da) da = true ∧ (asR sa da).length ≠ 0 ∧ (asR sa da).length ≤ 3 ∧ (asR sa da).headD 0 ≤ 300 ∧ 0 ≤ (asR sa da).headD 0 := by
  have h1 : arrOk (asR sa da) da = true ∧ (asR sa da).length ≠ 0 := by
    unfold asR
    split
    · exact ⟨arrOk_vec h, by simp⟩
    · rename_i h0; exact ⟨h, h0⟩
  obtain ⟨m1, m2, m3⟩ := rowsR_lim h1.1 h1.2
  have := arrOk_size h1.1
  exact ⟨h1.1, h1.2, (sizeI_ok (by omega)).1, by omega, by omega⟩
theorem rows_flat {sb db : List Int} (h : arrOk sb db = true) (hne : sb.length ≠ 0) : flatD (rowsR sb db) = db := by
  obtain ⟨x, tl, e⟩ := List.exists_cons_of_ne_nil (show sb ≠ [] by rintro rfl; exact hne rfl)
  subst e
  obtain ⟨n, rfl, hn3, hm⟩ := arrOk_rows h
  have key : ∀ (m k : Nat), sizeI tl = m → k ≤ n → n * m ≤ db.length → flatD ((List.range k).map fun i => (tl, (db.drop (i * m)).take m)) = db.take (k * m) := by
    intro m k hm hk hl
    induction k with
    | zero => simp [flatD]
    | succ k ih =>
      rw [List.range_succ, List.map_append, List.map_cons, List.map_nil]
      have e2 := ih (by omega)
      unfold flatD at e2 ⊢
      rw [List.flatMap_append, e2]
      simp only [List.flatMap_cons, List.flatMap_nil, List.append_nil]
      rw [Nat.add_mul, Nat.one_mul, List.take_add]
  rcases Nat.eq_zero_or_pos n with h0 | h0
  · subst h0
    have := (scan_zero h hne (by simp [rowsR])).2
    rw [this]; simp [rowsR, flatD]
  · obtain ⟨m, e1, e2, e3⟩ := hm h0
    have := key m n e1 (Nat.le_refl _) (by omega)
    unfold rowsR
    simp only [Int.toNat_natCast, e1]
    rw [this, ← e3, List.take_length]
theorem join_eq {sa da sb db : List Int} (h1 : arrOk sa da = true) (h2 : arrOk sb db = true) : joinR (rowsR (asR sa da) da ++ rowsR (asR sb db) db) (asR sa da).tail = if arrOk (((asR sa da).headD 0 + (asR sb db).headD 0) :: (asR sa da).tail) (da ++ db) = true then (((((asR sa da).headD 0 + (asR sb db).headD 0) :: (asR sa da).tail), da ++ db), 0) else (([], []), 6) := by
  obtain ⟨a1, a2, _⟩ := asR_ok h1
  obtain ⟨b1, b2, _⟩ := asR_ok h2
  have e1 := (rowsR_lim a1 a2).2.1
  have e2 := (rowsR_lim b1 b2).2.1
  have e3 : ((rowsR (asR sa da) da ++ rowsR (asR sb db) db).length : Int) = (asR sa da).headD 0 + (asR sb db).headD 0 := by rw [List.length_append, Int.natCast_add, e1, e2]
  have e4 : flatD (rowsR (asR sa da) da ++ rowsR (asR sb db) db) = da ++ db := by
    have := rows_flat a1 a2
    have := rows_flat b1 b2
    unfold flatD at *
    rw [List.flatMap_append]; simp [*]
  unfold joinR
  rw [e3, e4]

theorem implAsRows_s {H : AH} {pa qa : Value} {sa da : List Int} (a : AR H pa qa sa da) (h0 : sa.length = 0) : CallsA Try.prog 113 #[.agg #[pa, qa]] H fun r H' => AnsA H H' r ([(da.length : Int)], da) := by
  have al := a.l1
  have bl := a.l2
  obtain ⟨za, zc, zb, zd, rfl, rfl⟩ := a.o1
  have q := (LX.nil (H := H))
  refine w113 ?_
  unfold k113
  simp -implicitDefEqProofs only [kz, kk0, kk1, kk2, kk3, ↓two_true, ↓two_false, mkv, aggAt, Nat.reduceLeDiff, Nat.reduceSub, Nat.reduceMul, implies_true, Nat.reduceEqDiff, reduceIte, Nat.reduceAdd, Nat.reduceBEq, reduceCtorEq, al26, fa26_0, fa26_1, ld24, ld26, ln24, st26, h0, cast0, beq_self_eq_true]
  refine st_box q fun H1 q1 => ?_
  simp -implicitDefEqProofs only [kz, kk0, kk1, kk2, kk3, ↓two_true, ↓two_false, mkv, aggAt, Nat.reduceLeDiff, Nat.reduceSub, Nat.reduceMul, implies_true, Nat.reduceEqDiff, reduceIte, Nat.reduceAdd, Nat.reduceBEq, reduceCtorEq, al26, fa26_0, fa26_1, ld24, ld26, ln24, st26, h0, cast0, beq_self_eq_true, q1.rd 0 rfl]
  refine st_box q1 fun H2 q2 => ?_
  simp -implicitDefEqProofs only [kz, kk0, kk1, kk2, kk3, ↓two_true, ↓two_false, mkv, aggAt, Nat.reduceLeDiff, Nat.reduceSub, Nat.reduceMul, implies_true, Nat.reduceEqDiff, reduceIte, Nat.reduceAdd, Nat.reduceBEq, reduceCtorEq, al26, fa26_0, fa26_1, ld24, ld26, ln24, st26, h0, cast0, beq_self_eq_true, q2.rd 0 rfl, q2.rd 1 rfl]
  refine (vector_ok (a.od.ext q2.ext) (by omega) ).mono ?_
  rintro _ H3 ⟨p1, p2, rfl, g1⟩
  have q3 := q2.join g1
  simp only [List.map_cons, List.map_nil, List.cons_append, List.nil_append] at q3
  obtain ⟨a1, c1, rfl⟩ := (q3.own 0 rfl).isSlice
  obtain ⟨a2, c2, rfl⟩ := (q3.own 1 rfl).isSlice
  simp -implicitDefEqProofs only [kz, kk0, kk1, kk2, kk3, ↓two_true, ↓two_false, mkv, aggAt, Nat.reduceLeDiff, Nat.reduceSub, Nat.reduceMul, implies_true, Nat.reduceEqDiff, reduceIte, Nat.reduceAdd, Nat.reduceBEq, reduceCtorEq, al26, fa26_0, fa26_1, ld24, ld26, ln24, st26, h0, cast0, beq_self_eq_true, q3.rd 2 rfl, q3.rd 3 rfl]
  refine st_set q3 2 rfl fun H4 q4 => ?_
  simp only [List.set_cons_zero, List.set_cons_succ] at q4
  simp -implicitDefEqProofs only [kz, kk0, kk1, kk2, kk3, ↓two_true, ↓two_false, mkv, aggAt, Nat.reduceLeDiff, Nat.reduceSub, Nat.reduceMul, implies_true, Nat.reduceEqDiff, reduceIte, Nat.reduceAdd, Nat.reduceBEq, reduceCtorEq, al26, fa26_0, fa26_1, ld24, ld26, ln24, st26, h0, cast0, beq_self_eq_true, q4.rd 2 rfl, q4.rd 3 rfl]
  -- end1
  exact q4.ansA 0 1 (by decide) rfl rfl rfl

theorem implAsRows_n {H : AH} {pa qa : Value} {sa da : List Int} (a : AR H pa qa sa da) (h0 : sa.length ≠ 0) : CallsA Try.prog 113 #[.agg #[pa, qa]] H fun r H' => r = .agg #[pa, qa] ∧ ∃ K, H' = H ++ K := by
  have al := a.l1
  have bl := a.l2
  obtain ⟨za, zc, zb, zd, rfl, rfl⟩ := a.o1
  have q := (LX.nil (H := H))
  refine w113 ?_
  unfold k113
  simp -implicitDefEqProofs only [kz, kk0, kk1, kk2, kk3, ↓two_true, ↓two_false, mkv, aggAt, Nat.reduceLeDiff, Nat.reduceSub, Nat.reduceMul, implies_true, Nat.reduceEqDiff, reduceIte, Nat.reduceAdd, Nat.reduceBEq, reduceCtorEq, al26, fa26_0, fa26_1, ld24, ld26, ln24, st26]
  refine st_box q fun H1 q1 => ?_
  simp -implicitDefEqProofs only [kz, kk0, kk1, kk2, kk3, ↓two_true, ↓two_false, mkv, aggAt, Nat.reduceLeDiff, Nat.reduceSub, Nat.reduceMul, implies_true, Nat.reduceEqDiff, reduceIte, Nat.reduceAdd, Nat.reduceBEq, reduceCtorEq, al26, fa26_0, fa26_1, ld24, ld26, ln24, st26, q1.rd 0 rfl]
  refine st_box q1 fun H2 q2 => ?_
  simp -implicitDefEqProofs only [kz, kk0, kk1, kk2, kk3, ↓two_true, ↓two_false, mkv, aggAt, Nat.reduceLeDiff, Nat.reduceSub, Nat.reduceMul, implies_true, Nat.reduceEqDiff, reduceIte, Nat.reduceAdd, Nat.reduceBEq, reduceCtorEq, al26, fa26_0, fa26_1, ld24, ld26, ln24, st26, q2.rd 0 rfl, q2.rd 1 rfl]
  refine two_intro (fun u1 => ?_) (fun u1 => ?_)
  ·
    exact absurd (by simpa using u1) h0
  ·
    try simp -implicitDefEqProofs only [kz, kk0, kk1, kk2, kk3, ↓two_true, ↓two_false, mkv, aggAt, Nat.reduceLeDiff, Nat.reduceSub, Nat.reduceMul, implies_true, Nat.reduceEqDiff, reduceIte, Nat.reduceAdd, Nat.reduceBEq, reduceCtorEq, al26, fa26_0, fa26_1, ld24, ld26, ln24, st26, q2.rd 0 rfl, q2.rd 1 rfl]
    refine st_set q2 0 rfl fun H3 q3 => ?_
    simp only [List.set_cons_zero, List.set_cons_succ] at q3
    simp -implicitDefEqProofs only [kz, kk0, kk1, kk2, kk3, ↓two_true, ↓two_false, mkv, aggAt, Nat.reduceLeDiff, Nat.reduceSub, Nat.reduceMul, implies_true, Nat.reduceEqDiff, reduceIte, Nat.reduceAdd, Nat.reduceBEq, reduceCtorEq, al26, fa26_0, fa26_1, ld24, ld26, ln24, st26, q3.rd 0 rfl, q3.rd 1 rfl]
    -- end1
    first | exact q3.ext | exact ⟨rfl, q3.ext⟩

theorem asRows_lx {H0 H : AH} {L : List Ix} {pa qa : Value} {sa da : List Int} (q : LX none H0 H L) (a : AR H0 pa qa sa da) : CallsA Try.prog 113 #[.agg #[pa, qa]] H fun r H' => ∃ x y z w, r = .agg #[.slice x (asR sa da).length y, .slice z da.length w] ∧ LX none H0 H' (.fro (.slice x (asR sa da).length y) (asR sa da) :: .fro (.slice z da.length w) da :: L) := by
  have ha := a.ext q.ext
  by_cases h0 : sa.length = 0
  · refine (implAsRows_s ha h0).mono ?_
    rintro _ H1 ⟨p, p2, rfl, g⟩
    have q := q.join g
    simp only [List.map_cons, List.map_nil, List.cons_append, List.nil_append] at q
    have e : asR sa da = [(da.length : Int)] := by unfold asR; rw [if_pos h0]
    obtain ⟨x, y, rfl⟩ := (q.own 0 rfl).isSlice
    obtain ⟨z, w, rfl⟩ := (q.own 1 rfl).isSlice
    rw [e]
    exact ⟨x, y, z, w, rfl, (q.fzr 0 rfl).fzr 1 rfl⟩
  · refine (implAsRows_n ha h0).mono ?_
    rintro _ H1 ⟨rfl, he⟩
    obtain ⟨x, y, z, w, rfl, rfl⟩ := a.o1
    have e : asR sa da = sa := by unfold asR; rw [if_neg h0]
    rw [e]
    exact ⟨x, y, z, w, rfl, ((q.extd he).par a.od (.inl rfl)).par a.os (.inl rfl)⟩

theorem l5Vector_s {H : AH} {pa qa : Value} {sa da : List Int} (a : AR H pa qa sa da) (h0 : sa.length = 0) : CallsA Try.prog 115 #[.agg #[pa, qa]] H fun r H' => AnsA H H' r ([(da.length : Int)], da) := by
  have al := a.l1
  have bl := a.l2
  obtain ⟨za, zc, zb, zd, rfl, rfl⟩ := a.o1
  have q := (LX.nil (H := H))
  refine w115 ?_
  unfold k115
  simp -implicitDefEqProofs only [kz, kk0, kk1, kk2, kk3, ↓two_true, ↓two_false, mkv, aggAt, Nat.reduceLeDiff, Nat.reduceSub, Nat.reduceMul, implies_true, Nat.reduceEqDiff, reduceIte, Nat.reduceAdd, Nat.reduceBEq, reduceCtorEq, al26, fa26_0, fa26_1, ld24, ld26, ln24, st26, h0, cast0, beq_self_eq_true]
  refine st_box q fun H1 q1 => ?_
  simp -implicitDefEqProofs only [kz, kk0, kk1, kk2, kk3, ↓two_true, ↓two_false, mkv, aggAt, Nat.reduceLeDiff, Nat.reduceSub, Nat.reduceMul, implies_true, Nat.reduceEqDiff, reduceIte, Nat.reduceAdd, Nat.reduceBEq, reduceCtorEq, al26, fa26_0, fa26_1, ld24, ld26, ln24, st26, h0, cast0, beq_self_eq_true, q1.rd 0 rfl]
  refine st_box q1 fun H2 q2 => ?_
  simp -implicitDefEqProofs only [kz, kk0, kk1, kk2, kk3, ↓two_true, ↓two_false, mkv, aggAt, Nat.reduceLeDiff, Nat.reduceSub, Nat.reduceMul, implies_true, Nat.reduceEqDiff, reduceIte, Nat.reduceAdd, Nat.reduceBEq, reduceCtorEq, al26, fa26_0, fa26_1, ld24, ld26, ln24, st26, h0, cast0, beq_self_eq_true, q2.rd 0 rfl, q2.rd 1 rfl]
  refine (l3VectorA_ok (a.od.ext q2.ext) (by omega) ).mono ?_
  rintro _ H3 ⟨p1, p2, rfl, g1⟩
  have q3 := q2.join g1
  simp only [List.map_cons, List.map_nil, List.cons_append, List.nil_append] at q3
  obtain ⟨a1, c1, rfl⟩ := (q3.own 0 rfl).isSlice
  obtain ⟨a2, c2, rfl⟩ := (q3.own 1 rfl).isSlice
  simp -implicitDefEqProofs only [kz, kk0, kk1, kk2, kk3, ↓two_true, ↓two_false, mkv, aggAt, Nat.reduceLeDiff, Nat.reduceSub, Nat.reduceMul, implies_true, Nat.reduceEqDiff, reduceIte, Nat.reduceAdd, Nat.reduceBEq, reduceCtorEq, al26, fa26_0, fa26_1, ld24, ld26, ln24, st26, h0, cast0, beq_self_eq_true, q3.rd 2 rfl, q3.rd 3 rfl]
  refine st_set q3 2 rfl fun H4 q4 => ?_
  simp only [List.set_cons_zero, List.set_cons_succ] at q4
  simp -implicitDefEqProofs only [kz, kk0, kk1, kk2, kk3, ↓two_true, ↓two_false, mkv, aggAt, Nat.reduceLeDiff, Nat.reduceSub, Nat.reduceMul, implies_true, Nat.reduceEqDiff, reduceIte, Nat.reduceAdd, Nat.reduceBEq, reduceCtorEq, al26, fa26_0, fa26_1, ld24, ld26, ln24, st26, h0, cast0, beq_self_eq_true, q4.rd 2 rfl, q4.rd 3 rfl]
  -- end1
  exact q4.ansA 0 1 (by decide) rfl rfl rfl

theorem l5Vector_n {H : AH} {pa qa : Value} {sa da : List Int} (a : AR H pa qa sa da) (h0 : sa.length ≠ 0) : CallsA Try.prog 115 #[.agg #[pa, qa]] H fun r H' => r = .agg #[pa, qa] ∧ ∃ K, H' = H ++ K := by
  have al := a.l1
  have bl := a.l2
  obtain ⟨za, zc, zb, zd, rfl, rfl⟩ := a.o1
  have q := (LX.nil (H := H))
  refine w115 ?_
  unfold k115
  simp -implicitDefEqProofs only [kz, kk0, kk1, kk2, kk3, ↓two_true, ↓two_false, mkv, aggAt, Nat.reduceLeDiff, Nat.reduceSub, Nat.reduceMul, implies_true, Nat.reduceEqDiff, reduceIte, Nat.reduceAdd, Nat.reduceBEq, reduceCtorEq, al26, fa26_0, fa26_1, ld24, ld26, ln24, st26]
  refine st_box q fun H1 q1 => ?_
  simp -implicitDefEqProofs only [kz, kk0, kk1, kk2, kk3, ↓two_true, ↓two_false, mkv, aggAt, Nat.reduceLeDiff, Nat.reduceSub, Nat.reduceMul, implies_true, Nat.reduceEqDiff, reduceIte, Nat.reduceAdd, Nat.reduceBEq, reduceCtorEq, al26, fa26_0, fa26_1, ld24, ld26, ln24, st26, q1.rd 0 rfl]
  refine st_box q1 fun H2 q2 => ?_
  simp -implicitDefEqProofs only [kz, kk0, kk1, kk2, kk3, ↓two_true, ↓two_false, mkv, aggAt, Nat.reduceLeDiff, Nat.reduceSub, Nat.reduceMul, implies_true, Nat.reduceEqDiff, reduceIte, Nat.reduceAdd, Nat.reduceBEq, reduceCtorEq, al26, fa26_0, fa26_1, ld24, ld26, ln24, st26, q2.rd 0 rfl, q2.rd 1 rfl]
  refine two_intro (fun u1 => ?_) (fun u1 => ?_)
  ·
    exact absurd (by simpa using u1) h0
  ·
    try simp -implicitDefEqProofs only [kz, kk0, kk1, kk2, kk3, ↓two_true, ↓two_false, mkv, aggAt, Nat.reduceLeDiff, Nat.reduceSub, Nat.reduceMul, implies_true, Nat.reduceEqDiff, reduceIte, Nat.reduceAdd, Nat.reduceBEq, reduceCtorEq, al26, fa26_0, fa26_1, ld24, ld26, ln24, st26, q2.rd 0 rfl, q2.rd 1 rfl]
    refine st_set q2 0 rfl fun H3 q3 => ?_
    simp only [List.set_cons_zero, List.set_cons_succ] at q3
    simp -implicitDefEqProofs only [kz, kk0, kk1, kk2, kk3, ↓two_true, ↓two_false, mkv, aggAt, Nat.reduceLeDiff, Nat.reduceSub, Nat.reduceMul, implies_true, Nat.reduceEqDiff, reduceIte, Nat.reduceAdd, Nat.reduceBEq, reduceCtorEq, al26, fa26_0, fa26_1, ld24, ld26, ln24, st26, q3.rd 0 rfl, q3.rd 1 rfl]
    -- end1
    first | exact q3.ext | exact ⟨rfl, q3.ext⟩

theorem l5Vector_lx {H0 H : AH} {L : List Ix} {pa qa : Value} {sa da : List Int} (q : LX none H0 H L) (a : AR H0 pa qa sa da) : CallsA Try.prog 115 #[.agg #[pa, qa]] H fun r H' => ∃ x y z w, r = .agg #[.slice x (asR sa da).length y, .slice z da.length w] ∧ LX none H0 H' (.fro (.slice x (asR sa da).length y) (asR sa da) :: .fro (.slice z da.length w) da :: L) := by
  have ha := a.ext q.ext
  by_cases h0 : sa.length = 0
  · refine (l5Vector_s ha h0).mono ?_
    rintro _ H1 ⟨p, p2, rfl, g⟩
    have q := q.join g
    simp only [List.map_cons, List.map_nil, List.cons_append, List.nil_append] at q
    have e : asR sa da = [(da.length : Int)] := by unfold asR; rw [if_pos h0]
    obtain ⟨x, y, rfl⟩ := (q.own 0 rfl).isSlice
    obtain ⟨z, w, rfl⟩ := (q.own 1 rfl).isSlice
    rw [e]
    exact ⟨x, y, z, w, rfl, (q.fzr 0 rfl).fzr 1 rfl⟩
  · refine (l5Vector_n ha h0).mono ?_
    rintro _ H1 ⟨rfl, he⟩
    obtain ⟨x, y, z, w, rfl, rfl⟩ := a.o1
    have e : asR sa da = sa := by unfold asR; rw [if_neg h0]
    rw [e]
    exact ⟨x, y, z, w, rfl, ((q.extd he).par a.od (.inl rfl)).par a.os (.inl rfl)⟩

theorem implJoin_ok {H : AH} {pa qa pb qb : Value} {sa da sb db : List Int} (a : AR H pa qa sa da) (b : AR H pb qb sb db) : CallsA Try.prog 49 #[.agg #[pa, qa], .agg #[pb, qb]] H fun r H' => Ans1 H H' r (joinA sa da sb db) := by
  have al := a.l1
  have bl := a.l2
  have al2 := b.l1
  have bl2 := b.l2
  obtain ⟨za, zc, zb, zd, rfl, rfl⟩ := a.o1
  obtain ⟨ya, yc, yb, yd, rfl, rfl⟩ := b.o1
  have q := (LX.nil (H := H))
  refine w49 ?_
  unfold k49
  simp -implicitDefEqProofs only [kz, kk0, kk1, kk2, kk3, ↓two_true, ↓two_false, mkv, aggAt, Nat.reduceLeDiff, Nat.reduceSub, Nat.reduceMul, implies_true, Nat.reduceEqDiff, reduceIte, Nat.reduceAdd, Nat.reduceBEq, reduceCtorEq, al26, ap86_86, bd26, fa26_0, ld24, ld26, ln24, sn24, sl24, st26]
  refine st_box q fun H1 q1 => ?_
  simp -implicitDefEqProofs only [kz, kk0, kk1, kk2, kk3, ↓two_true, ↓two_false, mkv, aggAt, Nat.reduceLeDiff, Nat.reduceSub, Nat.reduceMul, implies_true, Nat.reduceEqDiff, reduceIte, Nat.reduceAdd, Nat.reduceBEq, reduceCtorEq, al26, ap86_86, bd26, fa26_0, ld24, ld26, ln24, sn24, sl24, st26, q1.rd 0 rfl]
  refine st_box q1 fun H2 q2 => ?_
  simp -implicitDefEqProofs only [kz, kk0, kk1, kk2, kk3, ↓two_true, ↓two_false, mkv, aggAt, Nat.reduceLeDiff, Nat.reduceSub, Nat.reduceMul, implies_true, Nat.reduceEqDiff, reduceIte, Nat.reduceAdd, Nat.reduceBEq, reduceCtorEq, al26, ap86_86, bd26, fa26_0, ld24, ld26, ln24, sn24, sl24, st26, q2.rd 0 rfl, q2.rd 1 rfl]
  refine st_box q2 fun H3 q3 => ?_
  simp -implicitDefEqProofs only [kz, kk0, kk1, kk2, kk3, ↓two_true, ↓two_false, mkv, aggAt, Nat.reduceLeDiff, Nat.reduceSub, Nat.reduceMul, implies_true, Nat.reduceEqDiff, reduceIte, Nat.reduceAdd, Nat.reduceBEq, reduceCtorEq, al26, ap86_86, bd26, fa26_0, ld24, ld26, ln24, sn24, sl24, st26, q3.rd 0 rfl, q3.rd 1 rfl, q3.rd 2 rfl]
  refine (implOk_ar (a.ext q3.ext)).mono ?_
  rintro _ H4 ⟨rfl, he1⟩
  have q4 := q3.extd he1
  simp -implicitDefEqProofs only [kz, kk0, kk1, kk2, kk3, ↓two_true, ↓two_false, mkv, aggAt, Nat.reduceLeDiff, Nat.reduceSub, Nat.reduceMul, implies_true, Nat.reduceEqDiff, reduceIte, Nat.reduceAdd, Nat.reduceBEq, reduceCtorEq, al26, ap86_86, bd26, fa26_0, ld24, ld26, ln24, sn24, sl24, st26, q4.rd 0 rfl, q4.rd 1 rfl, q4.rd 2 rfl]
  refine two_intro (fun u1 => ?_) (fun u1 => ?_)
  ·
    have w1 : arrOk sa da = false := by simpa using u1
    try simp -implicitDefEqProofs only [kz, kk0, kk1, kk2, kk3, ↓two_true, ↓two_false, mkv, aggAt, Nat.reduceLeDiff, Nat.reduceSub, Nat.reduceMul, implies_true, Nat.reduceEqDiff, reduceIte, Nat.reduceAdd, Nat.reduceBEq, reduceCtorEq, al26, ap86_86, bd26, fa26_0, ld24, ld26, ln24, sn24, sl24, st26, q4.rd 0 rfl, q4.rd 1 rfl, q4.rd 2 rfl]
    refine st_set q4 0 rfl fun H5 q5 => ?_
    simp only [List.set_cons_zero, List.set_cons_succ] at q5
    simp -implicitDefEqProofs only [kz, kk0, kk1, kk2, kk3, ↓two_true, ↓two_false, mkv, aggAt, Nat.reduceLeDiff, Nat.reduceSub, Nat.reduceMul, implies_true, Nat.reduceEqDiff, reduceIte, Nat.reduceAdd, Nat.reduceBEq, reduceCtorEq, al26, ap86_86, bd26, fa26_0, ld24, ld26, ln24, sn24, sl24, st26, q5.rd 0 rfl, q5.rd 1 rfl, q5.rd 2 rfl]
    -- end1
    exact q5.err (by simp [joinA, show (arrOk sa da && arrOk sb db) = false by simp [w1]])
  ·
    have v1 : arrOk sa da = true := by simpa using u1
    try simp -implicitDefEqProofs only [kz, kk0, kk1, kk2, kk3, ↓two_true, ↓two_false, mkv, aggAt, Nat.reduceLeDiff, Nat.reduceSub, Nat.reduceMul, implies_true, Nat.reduceEqDiff, reduceIte, Nat.reduceAdd, Nat.reduceBEq, reduceCtorEq, al26, ap86_86, bd26, fa26_0, ld24, ld26, ln24, sn24, sl24, st26, q4.rd 0 rfl, q4.rd 1 rfl, q4.rd 2 rfl]
    refine (implOk_ar (b.ext q4.ext)).mono ?_
    rintro _ H6 ⟨rfl, he2⟩
    have q6 := q4.extd he2
    simp -implicitDefEqProofs only [kz, kk0, kk1, kk2, kk3, ↓two_true, ↓two_false, mkv, aggAt, Nat.reduceLeDiff, Nat.reduceSub, Nat.reduceMul, implies_true, Nat.reduceEqDiff, reduceIte, Nat.reduceAdd, Nat.reduceBEq, reduceCtorEq, al26, ap86_86, bd26, fa26_0, ld24, ld26, ln24, sn24, sl24, st26, q6.rd 0 rfl, q6.rd 1 rfl, q6.rd 2 rfl]
    refine two_intro (fun u2 => ?_) (fun u2 => ?_)
    ·
      have w1 : arrOk sb db = false := by simpa using u2
      try simp -implicitDefEqProofs only [kz, kk0, kk1, kk2, kk3, ↓two_true, ↓two_false, mkv, aggAt, Nat.reduceLeDiff, Nat.reduceSub, Nat.reduceMul, implies_true, Nat.reduceEqDiff, reduceIte, Nat.reduceAdd, Nat.reduceBEq, reduceCtorEq, al26, ap86_86, bd26, fa26_0, ld24, ld26, ln24, sn24, sl24, st26, q6.rd 0 rfl, q6.rd 1 rfl, q6.rd 2 rfl]
      refine st_set q6 0 rfl fun H7 q7 => ?_
      simp only [List.set_cons_zero, List.set_cons_succ] at q7
      simp -implicitDefEqProofs only [kz, kk0, kk1, kk2, kk3, ↓two_true, ↓two_false, mkv, aggAt, Nat.reduceLeDiff, Nat.reduceSub, Nat.reduceMul, implies_true, Nat.reduceEqDiff, reduceIte, Nat.reduceAdd, Nat.reduceBEq, reduceCtorEq, al26, ap86_86, bd26, fa26_0, ld24, ld26, ln24, sn24, sl24, st26, q7.rd 0 rfl, q7.rd 1 rfl, q7.rd 2 rfl]
      -- end2
      exact q7.err (by simp [joinA, show (arrOk sa da && arrOk sb db) = false by simp [w1]])
    ·
      have v2 : arrOk sb db = true := by simpa using u2
      have wa := asR_ok v1
      have wb := asR_ok v2
      have l1a := arrOk_len v1
      have l1b := arrOk_len v2
      have lta : (asR sa da).tail.length ≤ 3 := by simp; omega
      have ltb : (asR sb db).tail.length ≤ 3 := by simp; omega
      obtain ⟨ma1, ma2, ma3⟩ := rowsR_lim wa.1 wa.2.1
      obtain ⟨mb1, mb2, mb3⟩ := rowsR_lim wb.1 wb.2.1
      have hfl : flatD (rowsR (asR sa da) da ++ rowsR (asR sb db) db) = da ++ db := by
        have e1 := rows_flat wa.1 wa.2.1
        have e2 := rows_flat wb.1 wb.2.1
        unfold flatD at *
        rw [List.flatMap_append, e1, e2]
      try simp -implicitDefEqProofs only [kz, kk0, kk1, kk2, kk3, ↓two_true, ↓two_false, mkv, aggAt, Nat.reduceLeDiff, Nat.reduceSub, Nat.reduceMul, implies_true, Nat.reduceEqDiff, reduceIte, Nat.reduceAdd, Nat.reduceBEq, reduceCtorEq, al26, ap86_86, bd26, fa26_0, ld24, ld26, ln24, sn24, sl24, st26, q6.rd 0 rfl, q6.rd 1 rfl, q6.rd 2 rfl]
      refine (asRows_lx q6 a).mono ?_
      rintro _ H8 ⟨a1, c1, a2, c2, rfl, q8⟩
      simp -implicitDefEqProofs only [kz, kk0, kk1, kk2, kk3, ↓two_true, ↓two_false, mkv, aggAt, Nat.reduceLeDiff, Nat.reduceSub, Nat.reduceMul, implies_true, Nat.reduceEqDiff, reduceIte, Nat.reduceAdd, Nat.reduceBEq, reduceCtorEq, al26, ap86_86, bd26, fa26_0, ld24, ld26, ln24, sn24, sl24, st26, q8.rd 2 rfl, q8.rd 3 rfl, q8.rd 4 rfl, q6.rd 0 rfl, q6.rd 1 rfl, q6.rd 2 rfl]
      refine (asRows_lx q8 b).mono ?_
      rintro _ H9 ⟨a3, c3, a4, c4, rfl, q9⟩
      simp -implicitDefEqProofs only [kz, kk0, kk1, kk2, kk3, ↓two_true, ↓two_false, mkv, aggAt, Nat.reduceLeDiff, Nat.reduceSub, Nat.reduceMul, implies_true, Nat.reduceEqDiff, reduceIte, Nat.reduceAdd, Nat.reduceBEq, reduceCtorEq, al26, ap86_86, bd26, fa26_0, ld24, ld26, ln24, sn24, sl24, st26, q9.rd 4 rfl, q9.rd 5 rfl, q9.rd 6 rfl, q6.rd 0 rfl, q6.rd 1 rfl, q6.rd 2 rfl, q8.rd 2 rfl, q8.rd 3 rfl, q8.rd 4 rfl]
      refine st_set q9 6 rfl fun H10 q10 => ?_
      simp only [List.set_cons_zero, List.set_cons_succ] at q10
      simp -implicitDefEqProofs only [kz, kk0, kk1, kk2, kk3, ↓two_true, ↓two_false, mkv, aggAt, Nat.reduceLeDiff, Nat.reduceSub, Nat.reduceMul, implies_true, Nat.reduceEqDiff, reduceIte, Nat.reduceAdd, Nat.reduceBEq, reduceCtorEq, al26, ap86_86, bd26, fa26_0, ld24, ld26, ln24, sn24, sl24, st26, q10.rd 4 rfl, q10.rd 5 rfl, q10.rd 6 rfl, q6.rd 0 rfl, q6.rd 1 rfl, q6.rd 2 rfl, q8.rd 2 rfl, q8.rd 3 rfl, q8.rd 4 rfl, q9.rd 4 rfl, q9.rd 5 rfl, q9.rd 6 rfl]
      refine st_set q10 5 rfl fun H11 q11 => ?_
      simp only [List.set_cons_zero, List.set_cons_succ] at q11
      simp -implicitDefEqProofs only [kz, kk0, kk1, kk2, kk3, ↓two_true, ↓two_false, mkv, aggAt, Nat.reduceLeDiff, Nat.reduceSub, Nat.reduceMul, implies_true, Nat.reduceEqDiff, reduceIte, Nat.reduceAdd, Nat.reduceBEq, reduceCtorEq, al26, ap86_86, bd26, fa26_0, ld24, ld26, ln24, sn24, sl24, st26, q11.rd 4 rfl, q11.rd 5 rfl, q11.rd 6 rfl, q6.rd 0 rfl, q6.rd 1 rfl, q6.rd 2 rfl, q8.rd 2 rfl, q8.rd 3 rfl, q8.rd 4 rfl, q9.rd 4 rfl, q9.rd 5 rfl, q9.rd 6 rfl, q10.rd 4 rfl, q10.rd 5 rfl, q10.rd 6 rfl]
      try simp -implicitDefEqProofs only [kz, kk0, kk1, kk2, kk3, ↓two_true, ↓two_false, mkv, aggAt, Nat.reduceLeDiff, Nat.reduceSub, Nat.reduceMul, implies_true, Nat.reduceEqDiff, reduceIte, Nat.reduceAdd, Nat.reduceBEq, reduceCtorEq, al26, ap86_86, bd26, fa26_0, ld24, ld26, ln24, sn24, sl24, st26, q11.rd 4 rfl, q11.rd 5 rfl, q11.rd 6 rfl]
      refine two_intro (fun u3 => ?_) (fun u3 => ?_)
      ·
        have v3 : (asR sa da).length ≠ (asR sb db).length := by have h5 : ¬ ((asR sa da).length : Int) = ((asR sb db).length : Int) := (by simpa using u3); omega
        try simp -implicitDefEqProofs only [kz, kk0, kk1, kk2, kk3, ↓two_true, ↓two_false, mkv, aggAt, Nat.reduceLeDiff, Nat.reduceSub, Nat.reduceMul, implies_true, Nat.reduceEqDiff, reduceIte, Nat.reduceAdd, Nat.reduceBEq, reduceCtorEq, al26, ap86_86, bd26, fa26_0, ld24, ld26, ln24, sn24, sl24, st26, q11.rd 4 rfl, q11.rd 5 rfl, q11.rd 6 rfl]
        refine st_set q11 4 rfl fun H12 q12 => ?_
        simp only [List.set_cons_zero, List.set_cons_succ] at q12
        simp -implicitDefEqProofs only [kz, kk0, kk1, kk2, kk3, ↓two_true, ↓two_false, mkv, aggAt, Nat.reduceLeDiff, Nat.reduceSub, Nat.reduceMul, implies_true, Nat.reduceEqDiff, reduceIte, Nat.reduceAdd, Nat.reduceBEq, reduceCtorEq, al26, ap86_86, bd26, fa26_0, ld24, ld26, ln24, sn24, sl24, st26, q12.rd 4 rfl, q12.rd 5 rfl, q12.rd 6 rfl]
        -- end3
        exact q12.err (by unfold joinA; rw [show (arrOk sa da && arrOk sb db) = true by rw [v1, v2]; rfl, if_pos rfl, if_pos v3])
      ·
        have v3 : (asR sa da).length = (asR sb db).length := by have h5 : ((asR sa da).length : Int) = ((asR sb db).length : Int) := (by simpa using u3); omega
        obtain ⟨a5, c5, ev1, hv1⟩ := IntRow.tl (q11.ri 2 rfl) (by omega)
        obtain ⟨a6, c6, ev2, hv2⟩ := IntRow.tl (q11.ri 0 rfl) (by omega)
        have es1 := fun Φ => (equalI_ok hv1 hv2 (by simp; omega)).eq0 (Φ := Φ)
        try simp -implicitDefEqProofs only [kz, kk0, kk1, kk2, kk3, ↓two_true, ↓two_false, mkv, aggAt, Nat.reduceLeDiff, Nat.reduceSub, Nat.reduceMul, implies_true, Nat.reduceEqDiff, reduceIte, Nat.reduceAdd, Nat.reduceBEq, reduceCtorEq, al26, ap86_86, bd26, fa26_0, ld24, ld26, ln24, sn24, sl24, st26, ev1, ev2, es1, q11.rd 4 rfl, q11.rd 5 rfl, q11.rd 6 rfl]
        refine two_intro (fun u4 => ?_) (fun u4 => ?_)
        ·
          have v4 : ((asR sa da).tail == (asR sb db).tail) = false := by simpa using u4
          try simp -implicitDefEqProofs only [kz, kk0, kk1, kk2, kk3, ↓two_true, ↓two_false, mkv, aggAt, Nat.reduceLeDiff, Nat.reduceSub, Nat.reduceMul, implies_true, Nat.reduceEqDiff, reduceIte, Nat.reduceAdd, Nat.reduceBEq, reduceCtorEq, al26, ap86_86, bd26, fa26_0, ld24, ld26, ln24, sn24, sl24, st26, ev1, ev2, es1, q11.rd 4 rfl, q11.rd 5 rfl, q11.rd 6 rfl]
          refine st_set q11 4 rfl fun H13 q13 => ?_
          simp only [List.set_cons_zero, List.set_cons_succ] at q13
          simp -implicitDefEqProofs only [kz, kk0, kk1, kk2, kk3, ↓two_true, ↓two_false, mkv, aggAt, Nat.reduceLeDiff, Nat.reduceSub, Nat.reduceMul, implies_true, Nat.reduceEqDiff, reduceIte, Nat.reduceAdd, Nat.reduceBEq, reduceCtorEq, al26, ap86_86, bd26, fa26_0, ld24, ld26, ln24, sn24, sl24, st26, ev1, ev2, es1, q13.rd 4 rfl, q13.rd 5 rfl, q13.rd 6 rfl]
          -- end4
          exact q13.err (by unfold joinA; rw [show (arrOk sa da && arrOk sb db) = true by rw [v1, v2]; rfl, if_pos rfl, if_neg (fun h => h v3), if_pos v4])
        ·
          have v4 : ¬ ((asR sa da).tail == (asR sb db).tail) = false := by simpa using u4
          try simp -implicitDefEqProofs only [kz, kk0, kk1, kk2, kk3, ↓two_true, ↓two_false, mkv, aggAt, Nat.reduceLeDiff, Nat.reduceSub, Nat.reduceMul, implies_true, Nat.reduceEqDiff, reduceIte, Nat.reduceAdd, Nat.reduceBEq, reduceCtorEq, al26, ap86_86, bd26, fa26_0, ld24, ld26, ln24, sn24, sl24, st26, ev1, ev2, es1, q11.rd 4 rfl, q11.rd 5 rfl, q11.rd 6 rfl]
          refine (implRows_ok (q11.arf 2 3 rfl rfl (by omega) (by omega))).mono ?_
          rintro rv1 H14 ⟨⟨ys1, nw1, cv1⟩, he3⟩
          rw [show rowsA (asR sa da) da = (rowsR (asR sa da) da) by unfold rowsA; rw [wa.1]; rfl] at nw1 cv1
          have q14 := q11.nrowsO nw1 cv1 he3
          obtain ⟨a7, c7, rfl, -⟩ := (q14.rowsT 0 rfl).1
          simp -implicitDefEqProofs only [kz, kk0, kk1, kk2, kk3, ↓two_true, ↓two_false, mkv, aggAt, Nat.reduceLeDiff, Nat.reduceSub, Nat.reduceMul, implies_true, Nat.reduceEqDiff, reduceIte, Nat.reduceAdd, Nat.reduceBEq, reduceCtorEq, al26, ap86_86, bd26, fa26_0, ld24, ld26, ln24, sn24, sl24, st26, ev1, ev2, es1, q14.rd 5 rfl, q14.rd 6 rfl, q14.rd 7 rfl, q11.rd 4 rfl, q11.rd 5 rfl, q11.rd 6 rfl]
          refine (implRows_ok (q14.arf 1 2 rfl rfl (by omega) (by omega))).mono ?_
          rintro rv2 H15 ⟨⟨ys2, nw2, cv2⟩, he4⟩
          rw [show rowsA (asR sb db) db = (rowsR (asR sb db) db) by unfold rowsA; rw [wb.1]; rfl] at nw2 cv2
          have q15 := q14.nrows nw2 cv2 he4
          obtain ⟨a8, c8, rfl, -⟩ := (q15.rowsF 0 rfl).1
          simp -implicitDefEqProofs only [kz, kk0, kk1, kk2, kk3, ↓two_true, ↓two_false, mkv, aggAt, Nat.reduceLeDiff, Nat.reduceSub, Nat.reduceMul, implies_true, Nat.reduceEqDiff, reduceIte, Nat.reduceAdd, Nat.reduceBEq, reduceCtorEq, al26, ap86_86, bd26, fa26_0, ld24, ld26, ln24, sn24, sl24, st26, ev1, ev2, es1, q15.rd 6 rfl, q15.rd 7 rfl, q15.rd 8 rfl, q11.rd 4 rfl, q11.rd 5 rfl, q11.rd 6 rfl, q14.rd 5 rfl, q14.rd 6 rfl, q14.rd 7 rfl]
          refine st_appT 2 rfl q15 1 rfl (fun B h => h.ftW 0 rfl) (by omega) fun a9 c9 H16 q16 => ?_
          simp only [List.set_cons_zero, List.set_cons_succ, ← rowsV_app] at q16
          obtain ⟨a10, c10, ev3, hv3⟩ := IntRow.tl (q16.ri 4 rfl) (by omega)
          have hh1 := ev1.symm.trans ev3
          simp only [Option.some.injEq, Value.slice.injEq] at hh1
          obtain ⟨rfl, -, rfl⟩ := hh1
          simp -implicitDefEqProofs only [kz, kk0, kk1, kk2, kk3, ↓two_true, ↓two_false, mkv, aggAt, Nat.reduceLeDiff, Nat.reduceSub, Nat.reduceMul, implies_true, Nat.reduceEqDiff, reduceIte, Nat.reduceAdd, Nat.reduceBEq, reduceCtorEq, al26, ap86_86, bd26, fa26_0, ld24, ld26, ln24, sn24, sl24, st26, ev1, ev2, es1, q16.rd 6 rfl, q16.rd 7 rfl, q16.rd 8 rfl, q11.rd 4 rfl, q11.rd 5 rfl, q11.rd 6 rfl, q14.rd 5 rfl, q14.rd 6 rfl, q14.rd 7 rfl, q15.rd 6 rfl, q15.rd 7 rfl, q15.rd 8 rfl]
          refine (joined_ok (q16.rowsT 1 rfl).1 hv3 (by rw [List.length_append]; omega) (by simp; omega) (by rw [hfl]; simp; omega) ).mono ?_
          rintro _ H17 ⟨p1, p2, rfl, g1⟩
          obtain ⟨R1, hR1⟩ : ∃ R, joinR (rowsR (asR sa da) da ++ rowsR (asR sb db) db) (asR sa da).tail = R := ⟨_, rfl⟩
          rw [hR1] at g1 ⊢
          have q17 := q16.join g1
          simp only [List.map_cons, List.map_nil, List.cons_append, List.nil_append] at q17
          obtain ⟨a11, c11, rfl⟩ := (q17.own 0 rfl).isSlice
          obtain ⟨a12, c12, rfl⟩ := (q17.own 1 rfl).isSlice
          simp -implicitDefEqProofs only [kz, kk0, kk1, kk2, kk3, ↓two_true, ↓two_false, mkv, aggAt, Nat.reduceLeDiff, Nat.reduceSub, Nat.reduceMul, implies_true, Nat.reduceEqDiff, reduceIte, Nat.reduceAdd, Nat.reduceBEq, reduceCtorEq, al26, ap86_86, bd26, fa26_0, ld24, ld26, ln24, sn24, sl24, st26, ev1, ev2, es1, q17.rd 8 rfl, q17.rd 9 rfl, q17.rd 10 rfl, q11.rd 4 rfl, q11.rd 5 rfl, q11.rd 6 rfl, q14.rd 5 rfl, q14.rd 6 rfl, q14.rd 7 rfl, q15.rd 6 rfl, q15.rd 7 rfl, q15.rd 8 rfl, q16.rd 6 rfl, q16.rd 7 rfl, q16.rd 8 rfl]
          refine st_set q17 8 rfl fun H18 q18 => ?_
          simp only [List.set_cons_zero, List.set_cons_succ] at q18
          simp -implicitDefEqProofs only [kz, kk0, kk1, kk2, kk3, ↓two_true, ↓two_false, mkv, aggAt, Nat.reduceLeDiff, Nat.reduceSub, Nat.reduceMul, implies_true, Nat.reduceEqDiff, reduceIte, Nat.reduceAdd, Nat.reduceBEq, reduceCtorEq, al26, ap86_86, bd26, fa26_0, ld24, ld26, ln24, sn24, sl24, st26, ev1, ev2, es1, q18.rd 8 rfl, q18.rd 9 rfl, q18.rd 10 rfl, q11.rd 4 rfl, q11.rd 5 rfl, q11.rd 6 rfl, q14.rd 5 rfl, q14.rd 6 rfl, q14.rd 7 rfl, q15.rd 6 rfl, q15.rd 7 rfl, q15.rd 8 rfl, q16.rd 6 rfl, q16.rd 7 rfl, q16.rd 8 rfl, q17.rd 8 rfl, q17.rd 9 rfl, q17.rd 10 rfl]
          -- end5
          exact q18.ans 0 1 (by decide) rfl rfl (by unfold joinA; rw [show (arrOk sa da && arrOk sb db) = true by rw [v1, v2]; rfl, if_pos rfl, if_neg (fun h => h v3), if_neg v4, ← join_eq v1 v2]; exact hR1)

theorem l5Right_y {H : AH} {pa qa : Value} {sa da : List Int} (a : AR H pa qa sa da) (h0 : arrOk sa da = true) : CallsA Try.prog 117 #[.agg #[pa, qa]] H fun r H' => r = .tuple #[.agg #[pa, qa], .int .i64 0] ∧ ∃ K, H' = H ++ K := by
  have al := a.l1
  have bl := a.l2
  obtain ⟨za, zc, zb, zd, rfl, rfl⟩ := a.o1
  have q := (LX.nil (H := H))
  refine w117 ?_
  unfold k117
  simp -implicitDefEqProofs only [kz, kk0, kk1, kk2, kk3, ↓two_true, ↓two_false, mkv, aggAt, Nat.reduceLeDiff, Nat.reduceSub, Nat.reduceMul, implies_true, Nat.reduceEqDiff, reduceIte, Nat.reduceAdd, Nat.reduceBEq, reduceCtorEq, al26, bd26, ld26, st26, h0, Bool.not_true]
  refine st_box q fun H1 q1 => ?_
  simp -implicitDefEqProofs only [kz, kk0, kk1, kk2, kk3, ↓two_true, ↓two_false, mkv, aggAt, Nat.reduceLeDiff, Nat.reduceSub, Nat.reduceMul, implies_true, Nat.reduceEqDiff, reduceIte, Nat.reduceAdd, Nat.reduceBEq, reduceCtorEq, al26, bd26, ld26, st26, h0, Bool.not_true, q1.rd 0 rfl]
  refine st_box q1 fun H2 q2 => ?_
  simp -implicitDefEqProofs only [kz, kk0, kk1, kk2, kk3, ↓two_true, ↓two_false, mkv, aggAt, Nat.reduceLeDiff, Nat.reduceSub, Nat.reduceMul, implies_true, Nat.reduceEqDiff, reduceIte, Nat.reduceAdd, Nat.reduceBEq, reduceCtorEq, al26, bd26, ld26, st26, h0, Bool.not_true, q2.rd 0 rfl, q2.rd 1 rfl]
  refine (specOk_ar (a.ext q2.ext)).mono ?_
  rintro _ H3 ⟨rfl, he1⟩
  have q3 := q2.extd he1
  simp -implicitDefEqProofs only [kz, kk0, kk1, kk2, kk3, ↓two_true, ↓two_false, mkv, aggAt, Nat.reduceLeDiff, Nat.reduceSub, Nat.reduceMul, implies_true, Nat.reduceEqDiff, reduceIte, Nat.reduceAdd, Nat.reduceBEq, reduceCtorEq, al26, bd26, ld26, st26, h0, Bool.not_true, q3.rd 0 rfl, q3.rd 1 rfl]
  refine st_set q3 0 rfl fun H4 q4 => ?_
  simp only [List.set_cons_zero, List.set_cons_succ] at q4
  simp -implicitDefEqProofs only [kz, kk0, kk1, kk2, kk3, ↓two_true, ↓two_false, mkv, aggAt, Nat.reduceLeDiff, Nat.reduceSub, Nat.reduceMul, implies_true, Nat.reduceEqDiff, reduceIte, Nat.reduceAdd, Nat.reduceBEq, reduceCtorEq, al26, bd26, ld26, st26, h0, Bool.not_true, q4.rd 0 rfl, q4.rd 1 rfl]
  -- end1
  first | exact q4.ext | exact ⟨rfl, q4.ext⟩

theorem l5Right_n {H : AH} {pa qa : Value} {sa da : List Int} (a : AR H pa qa sa da) (h0 : arrOk sa da = false) : CallsA Try.prog 117 #[.agg #[pa, qa]] H fun r H' => r = .tuple #[.agg #[.slice none 0 0, .slice none 0 0], .int .i64 6] ∧ ∃ K, H' = H ++ K := by
  have al := a.l1
  have bl := a.l2
  obtain ⟨za, zc, zb, zd, rfl, rfl⟩ := a.o1
  have q := (LX.nil (H := H))
  refine w117 ?_
  unfold k117
  simp -implicitDefEqProofs only [kz, kk0, kk1, kk2, kk3, ↓two_true, ↓two_false, mkv, aggAt, Nat.reduceLeDiff, Nat.reduceSub, Nat.reduceMul, implies_true, Nat.reduceEqDiff, reduceIte, Nat.reduceAdd, Nat.reduceBEq, reduceCtorEq, al26, bd26, ld26, st26, h0, Bool.not_false]
  refine st_box q fun H1 q1 => ?_
  simp -implicitDefEqProofs only [kz, kk0, kk1, kk2, kk3, ↓two_true, ↓two_false, mkv, aggAt, Nat.reduceLeDiff, Nat.reduceSub, Nat.reduceMul, implies_true, Nat.reduceEqDiff, reduceIte, Nat.reduceAdd, Nat.reduceBEq, reduceCtorEq, al26, bd26, ld26, st26, h0, Bool.not_false, q1.rd 0 rfl]
  refine st_box q1 fun H2 q2 => ?_
  simp -implicitDefEqProofs only [kz, kk0, kk1, kk2, kk3, ↓two_true, ↓two_false, mkv, aggAt, Nat.reduceLeDiff, Nat.reduceSub, Nat.reduceMul, implies_true, Nat.reduceEqDiff, reduceIte, Nat.reduceAdd, Nat.reduceBEq, reduceCtorEq, al26, bd26, ld26, st26, h0, Bool.not_false, q2.rd 0 rfl, q2.rd 1 rfl]
  refine (specOk_ar (a.ext q2.ext)).mono ?_
  rintro _ H3 ⟨rfl, he1⟩
  have q3 := q2.extd he1
  simp -implicitDefEqProofs only [kz, kk0, kk1, kk2, kk3, ↓two_true, ↓two_false, mkv, aggAt, Nat.reduceLeDiff, Nat.reduceSub, Nat.reduceMul, implies_true, Nat.reduceEqDiff, reduceIte, Nat.reduceAdd, Nat.reduceBEq, reduceCtorEq, al26, bd26, ld26, st26, h0, Bool.not_false, q3.rd 0 rfl, q3.rd 1 rfl]
  refine st_set q3 0 rfl fun H4 q4 => ?_
  simp only [List.set_cons_zero, List.set_cons_succ] at q4
  simp -implicitDefEqProofs only [kz, kk0, kk1, kk2, kk3, ↓two_true, ↓two_false, mkv, aggAt, Nat.reduceLeDiff, Nat.reduceSub, Nat.reduceMul, implies_true, Nat.reduceEqDiff, reduceIte, Nat.reduceAdd, Nat.reduceBEq, reduceCtorEq, al26, bd26, ld26, st26, h0, Bool.not_false, q4.rd 0 rfl, q4.rd 1 rfl]
  -- end1
  first | exact q4.ext | exact ⟨rfl, q4.ext⟩

end Go.Proofs.Ytockhdhilemfkaa.AM
