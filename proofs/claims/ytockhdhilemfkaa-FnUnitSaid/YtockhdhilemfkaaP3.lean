/- What the functions answer, part 3. -/
import Derived.Test.YtockhdhilemfkaaP2
set_option linter.unusedVariables false
set_option linter.unusedSimpArgs false
set_option linter.defProp false
set_option maxRecDepth 100000
/- What the functions answer, part 3. -/
namespace Go.Proofs.Ytockhdhilemfkaa.AM
open Go Go.Proofs.Ytockhdhilemfkaa Go.Proofs
theorem redL_last {s : Int} {rs : List (List Int × List Int)} (h : 0 < rs.length) : redL s (rs.drop (rs.length - 1)) = (rs[rs.length - 1]'(by omega), 0) := by
  have e1 : rs.drop (rs.length - 1) = [rs[rs.length - 1]'(by omega)] := by
    rw [List.drop_eq_getElem_cons (by omega), List.drop_eq_nil_of_le (by omega)]
  rw [e1]; rfl
theorem redL_err {s : Int} {rs : List (List Int × List Int)} {k : Nat} (hk : k < rs.length) (h : (redL s (rs.drop k)).2 ≠ 0) : redL s rs = redL s (rs.drop k) := by
  induction k with
  | zero => simp
  | succ k ih =>
    have e := redL_drop (s := s) hk
    unfold redS at e
    rw [if_neg h] at e
    rw [← e] at h ⊢
    exact ih (by omega) h
theorem each2R_err {s : Int} {sa da sb db : List Int} (h : (each2R s sa da sb db).2 ≠ 0) : (each2R s sa da sb db).1 = ([], []) := by
  unfold each2R at h ⊢
  repeat' split
  all_goals first | rfl | skip
  rename_i h1 h2 h3
  rw [if_pos h1, if_pos h2, if_pos h3] at h
  exact absurd rfl h
theorem each2R_ok {s : Int} {sa da sb db : List Int} {R : (List Int × List Int) × Int} (h : each2R s sa da sb db = R) (h0 : R.2 = 0) : arrOk sa da = true ∧ arrOk sb db = true ∧ sg2 s = true ∧ arrOk R.1.1 R.1.2 = true ∧ R.1.1.length ≤ 3 ∧ R.1.2.length ≤ 300 ∧ fitR sa da sb db = (R.1.1, 0) ∧ R.1.2 = each2D s sa da sb db R.1.2.length := by
  unfold each2R at h
  split at h
  · rename_i h1
    simp only [Bool.and_eq_true] at h1
    split at h
    · rename_i h2
      split at h
      · obtain ⟨S, C, hF⟩ : ∃ S C, fitR sa da sb db = (S, C) := ⟨_, _, rfl⟩
        rw [hF] at h h2
        simp only at h2
        subst h2
        obtain ⟨_, _, n, hn, hn3, _, _, _, hS⟩ := fitR_ok hF
        subst h
        simp only [hn, Int.toNat_natCast, each2D_len]
        refine ⟨h1.1.1, h1.1.2, h1.2, ?_, hS, hn3, hF, trivial⟩
        unfold arrOk
        simp only [hn, each2D_len, beq_self_eq_true, Bool.true_and]
        refine List.all_eq_true.2 fun y hy => ?_
        unfold each2D at hy
        obtain ⟨i, _, rfl⟩ := List.mem_map.1 hy
        exact twoF_num
      · rename_i h3; subst h; exact absurd h0 h3
    · rename_i h2; subst h; exact absurd h0 h2
  · subst h; exact absurd h0 (by decide)
theorem each2R_lim {s : Int} {sa da sb db : List Int} {R : (List Int × List Int) × Int} (h : each2R s sa da sb db = R) : R.1.1.length ≤ 300 ∧ R.1.2.length ≤ 300 := by
  by_cases h0 : R.2 = 0
  · obtain ⟨_, _, _, _, h1, h2, _⟩ := each2R_ok h h0
    omega
  · subst h
    rw [each2R_err h0]; simp

theorem arrOk_neu {s : Int} {sh : List Int} (h : 0 ≤ sizeI sh) : arrOk sh (List.replicate (sizeI sh).toNat (neuF s).1) = true := by
  unfold arrOk
  simp only [List.length_replicate, Bool.and_eq_true, beq_iff_eq]
  refine ⟨by omega, List.all_eq_true.2 fun y hy => ?_⟩
  rw [List.eq_of_mem_replicate hy]; exact neuF_num

theorem implReduced_ok {H : AH} {s : Int} {v w : Value} {rs : List (List Int × List Int)} {sh : List Int} (r : RowsA H v rs) (h : IntRow H w sh) (l1 : rs.length ≤ 1048576) (l2 : sh.length ≤ 1048575) (hrl : ∀ r ∈ rs, r.1.length ≤ 1048576 ∧ r.2.length ≤ 1048576) (hsz : rs.length = 0 → 0 ≤ sizeI sh) : CallsA Try.prog 79 #[.int .i64 s, v, w] H fun r H' => Ans1 H H' r (redR s rs sh) := by
  have r0 := r
  obtain ⟨ra, rc, rfl, -⟩ := r0
  obtain ⟨wa, wc, rfl, -⟩ := h.op
  have hsl := sizeI_le (l := sh)
  have q := (LX.nil (H := H))
  refine w79 ?_
  unfold k79
  simp -implicitDefEqProofs only [kz, kk0, kk1, kk2, kk3, ↓two_true, ↓two_false, mkv, aggAt, Nat.reduceLeDiff, Nat.reduceSub, Nat.reduceMul, implies_true, Nat.reduceEqDiff, reduceIte, Nat.reduceAdd, Nat.reduceBEq, reduceCtorEq, al26, ap24_24, bd26, bs24_1, fa26_1, ix86, ld24, ld26, ln86, st24, st26, implNeutral_eq]
  refine st_box q fun H1 q1 => ?_
  simp -implicitDefEqProofs only [kz, kk0, kk1, kk2, kk3, ↓two_true, ↓two_false, mkv, aggAt, Nat.reduceLeDiff, Nat.reduceSub, Nat.reduceMul, implies_true, Nat.reduceEqDiff, reduceIte, Nat.reduceAdd, Nat.reduceBEq, reduceCtorEq, al26, ap24_24, bd26, bs24_1, fa26_1, ix86, ld24, ld26, ln86, st24, st26, implNeutral_eq, q1.rd 0 rfl]
  refine two_intro (fun u1 => ?_) (fun u1 => ?_)
  ·
    have hr0 : rs.length = 0 := by simpa using u1
    try simp -implicitDefEqProofs only [kz, kk0, kk1, kk2, kk3, ↓two_true, ↓two_false, mkv, aggAt, Nat.reduceLeDiff, Nat.reduceSub, Nat.reduceMul, implies_true, Nat.reduceEqDiff, reduceIte, Nat.reduceAdd, Nat.reduceBEq, reduceCtorEq, al26, ap24_24, bd26, bs24_1, fa26_1, ix86, ld24, ld26, ln86, st24, st26, implNeutral_eq, q1.rd 0 rfl]
    have q2 := q1.nil0
    refine st_app q2 0 rfl (h.ext q2.ext) (by (try simp only [List.length_cons, List.length_nil, List.length_append, List.length_replicate, List.length_map, List.length_take, List.length_drop]); omega) fun a1 c1 H2 q3 => ?_
    simp only [List.set_cons_zero, List.set_cons_succ, List.length_nil, List.length_cons, Nat.zero_add, List.nil_append] at q3 ⊢
    simp -implicitDefEqProofs only [kz, kk0, kk1, kk2, kk3, ↓two_true, ↓two_false, mkv, aggAt, Nat.reduceLeDiff, Nat.reduceSub, Nat.reduceMul, implies_true, Nat.reduceEqDiff, reduceIte, Nat.reduceAdd, Nat.reduceBEq, reduceCtorEq, al26, ap24_24, bd26, bs24_1, fa26_1, ix86, ld24, ld26, ln86, st24, st26, implNeutral_eq, q3.rd 1 rfl]
    try simp -implicitDefEqProofs only [kz, kk0, kk1, kk2, kk3, ↓two_true, ↓two_false, mkv, aggAt, Nat.reduceLeDiff, Nat.reduceSub, Nat.reduceMul, implies_true, Nat.reduceEqDiff, reduceIte, Nat.reduceAdd, Nat.reduceBEq, reduceCtorEq, al26, ap24_24, bd26, bs24_1, fa26_1, ix86, ld24, ld26, ln86, st24, st26, implNeutral_eq, q3.rd 1 rfl]
    refine st_box q3 fun H3 q4 => ?_
    simp -implicitDefEqProofs only [kz, kk0, kk1, kk2, kk3, ↓two_true, ↓two_false, mkv, aggAt, Nat.reduceLeDiff, Nat.reduceSub, Nat.reduceMul, implies_true, Nat.reduceEqDiff, reduceIte, Nat.reduceAdd, Nat.reduceBEq, reduceCtorEq, al26, ap24_24, bd26, bs24_1, fa26_1, ix86, ld24, ld26, ln86, st24, st26, implNeutral_eq, q4.rd 0 rfl, q4.rd 2 rfl]
    refine st_set q4 0 rfl fun H4 q5 => ?_
    simp only [List.set_cons_zero, List.set_cons_succ] at q5
    simp -implicitDefEqProofs only [kz, kk0, kk1, kk2, kk3, ↓two_true, ↓two_false, mkv, aggAt, Nat.reduceLeDiff, Nat.reduceSub, Nat.reduceMul, implies_true, Nat.reduceEqDiff, reduceIte, Nat.reduceAdd, Nat.reduceBEq, reduceCtorEq, al26, ap24_24, bd26, bs24_1, fa26_1, ix86, ld24, ld26, ln86, st24, st26, implNeutral_eq, q5.rd 0 rfl, q5.rd 2 rfl]
    have q6 := q5.nil0
    refine rW_loopQ (σ := Nat × Option Addr × Nat) q6 [2, 6, 7, 8, 10] (fun x tm => tm 11 = .int .i64 x.1 ∧ x.1 ≤ (sizeI sh).toNat) (fun x L => (L.set 1 (.own (.box H2.length [.slice a1 sh.length c1, .slice x.2.1 (List.replicate x.1 (neuF s).1).length x.2.2]))).set 0 (.own (.row (.slice x.2.1 (List.replicate x.1 (neuF s).1).length x.2.2) (List.replicate x.1 (neuF s).1)))) (fun x => (sizeI sh).toNat - x.1) (0, none, 0) ⟨rfl, Nat.zero_le _⟩ rfl ?_
    rintro ⟨i, av, cv⟩ tm1 H5 ⟨h1, h2, h3, h4, h5, -⟩ ⟨ki, hi⟩ q7
    simp -implicitDefEqProofs only [kz, kk0, kk1, kk2, kk3, ↓two_true, ↓two_false, mkv, aggAt, Nat.reduceLeDiff, Nat.reduceSub, Nat.reduceMul, implies_true, Nat.reduceEqDiff, reduceIte, Nat.reduceAdd, Nat.reduceBEq, reduceCtorEq, al26, ap24_24, bd26, bs24_1, fa26_1, ix86, ld24, ld26, ln86, st24, st26] at h1 h2 h3 h4 h5
    simp only [List.set_cons_zero, List.set_cons_succ] at q7
    simp only at ki hi
    have wi := IntWalk.i64_in ((i : Int) + 1) (by omega)
    have es1 := fun Φ => (implSizeOf_ok (h.ext q7.ext) (by omega)).eq0 (Φ := Φ)
    simp -implicitDefEqProofs only [kz, kk0, kk1, kk2, kk3, ↓two_true, ↓two_false, mkv, aggAt, Nat.reduceLeDiff, Nat.reduceSub, Nat.reduceMul, implies_true, Nat.reduceEqDiff, reduceIte, Nat.reduceAdd, Nat.reduceBEq, reduceCtorEq, al26, ap24_24, bd26, bs24_1, fa26_1, ix86, ld24, ld26, ln86, st24, st26, implNeutral_eq, es1, h1, h2, h3, h4, h5, ki, wi, q7.rd 1 rfl, q7.rd 3 rfl]
    refine two_intro (fun u2 => ?_) (fun u2 => ?_)
    ·
      have hc : (i : Int) < sizeI sh := by simpa using u2
      try simp -implicitDefEqProofs only [kz, kk0, kk1, kk2, kk3, ↓two_true, ↓two_false, mkv, aggAt, Nat.reduceLeDiff, Nat.reduceSub, Nat.reduceMul, implies_true, Nat.reduceEqDiff, reduceIte, Nat.reduceAdd, Nat.reduceBEq, reduceCtorEq, al26, ap24_24, bd26, bs24_1, fa26_1, ix86, ld24, ld26, ln86, st24, st26, implNeutral_eq, es1, h1, h2, h3, h4, h5, ki, wi, q7.rd 1 rfl, q7.rd 3 rfl]
      refine st_lit [_] rfl rfl q7 fun H6 q8 => ?_
      simp -implicitDefEqProofs only [kz, kk0, kk1, kk2, kk3, ↓two_true, ↓two_false, mkv, aggAt, Nat.reduceLeDiff, Nat.reduceSub, Nat.reduceMul, implies_true, Nat.reduceEqDiff, reduceIte, Nat.reduceAdd, Nat.reduceBEq, reduceCtorEq, al26, ap24_24, bd26, bs24_1, fa26_1, ix86, ld24, ld26, ln86, st24, st26, implNeutral_eq, es1, h1, h2, h3, h4, h5, ki, wi, q8.rd 2 rfl, q8.rd 4 rfl]
      refine st_app q8 1 rfl (q8.int 0 rfl) (by (try simp only [List.length_cons, List.length_nil, List.length_append, List.length_replicate, List.length_map, List.length_take, List.length_drop]); omega) fun a2 c2 H7 q9 => ?_
      simp only [List.set_cons_zero, List.set_cons_succ, List.length_nil, List.length_cons, Nat.zero_add, List.nil_append] at q9 ⊢
      simp -implicitDefEqProofs only [kz, kk0, kk1, kk2, kk3, ↓two_true, ↓two_false, mkv, aggAt, Nat.reduceLeDiff, Nat.reduceSub, Nat.reduceMul, implies_true, Nat.reduceEqDiff, reduceIte, Nat.reduceAdd, Nat.reduceBEq, reduceCtorEq, al26, ap24_24, bd26, bs24_1, fa26_1, ix86, ld24, ld26, ln86, st24, st26, implNeutral_eq, es1, h1, h2, h3, h4, h5, ki, wi, q9.rd 2 rfl, q9.rd 4 rfl]
      refine st_set q9 2 rfl fun H8 q10 => ?_
      simp only [List.set_cons_zero, List.set_cons_succ] at q10
      simp -implicitDefEqProofs only [kz, kk0, kk1, kk2, kk3, ↓two_true, ↓two_false, mkv, aggAt, Nat.reduceLeDiff, Nat.reduceSub, Nat.reduceMul, implies_true, Nat.reduceEqDiff, reduceIte, Nat.reduceAdd, Nat.reduceBEq, reduceCtorEq, al26, ap24_24, bd26, bs24_1, fa26_1, ix86, ld24, ld26, ln86, st24, st26, implNeutral_eq, es1, h1, h2, h3, h4, h5, ki, wi, q10.rd 2 rfl, q10.rd 4 rfl]
      -- back loop1
      refine ⟨(i + 1, a2, c2), (by simp only; omega), ⟨rfl, rfl, rfl, rfl, rfl, trivial⟩, ⟨by first | rfl | simp, by simp only; omega⟩, ?_⟩
      simp only [List.set_cons_zero, List.set_cons_succ, List.replicate_succ', List.length_append, List.length_cons, List.length_nil, Nat.zero_add]
      exact q10.pick [1, 2, 3, 4] _ rfl (by decide)
    ·
      have hil : i = (sizeI sh).toNat := by have : ¬ (i : Int) < sizeI sh := (by simpa using u2); omega
      subst hil
      try simp -implicitDefEqProofs only [kz, kk0, kk1, kk2, kk3, ↓two_true, ↓two_false, mkv, aggAt, Nat.reduceLeDiff, Nat.reduceSub, Nat.reduceMul, implies_true, Nat.reduceEqDiff, reduceIte, Nat.reduceAdd, Nat.reduceBEq, reduceCtorEq, al26, ap24_24, bd26, bs24_1, fa26_1, ix86, ld24, ld26, ln86, st24, st26, implNeutral_eq, es1, h1, h2, h3, h4, h5, ki, wi, q7.rd 1 rfl, q7.rd 3 rfl]
      refine (implOk_ar (q7.ar 2 0 rfl rfl (by (try simp only [List.length_cons, List.length_nil, List.length_append, List.length_replicate, List.length_map, List.length_take, List.length_drop]); omega) (by (try simp only [List.length_cons, List.length_nil, List.length_append, List.length_replicate, List.length_map, List.length_take, List.length_drop]); omega))).mono ?_
      rintro _ H9 ⟨rfl, he1⟩
      have q11 := q7.extd he1
      simp -implicitDefEqProofs only [kz, kk0, kk1, kk2, kk3, ↓two_true, ↓two_false, mkv, aggAt, Nat.reduceLeDiff, Nat.reduceSub, Nat.reduceMul, implies_true, Nat.reduceEqDiff, reduceIte, Nat.reduceAdd, Nat.reduceBEq, reduceCtorEq, al26, ap24_24, bd26, bs24_1, fa26_1, ix86, ld24, ld26, ln86, st24, st26, implNeutral_eq, es1, h1, h2, h3, h4, h5, ki, wi, q11.rd 1 rfl, q11.rd 3 rfl]
      refine two_intro (fun u3 => ?_) (fun u3 => ?_)
      ·
        try simp -implicitDefEqProofs only [kz, kk0, kk1, kk2, kk3, ↓two_true, ↓two_false, mkv, aggAt, Nat.reduceLeDiff, Nat.reduceSub, Nat.reduceMul, implies_true, Nat.reduceEqDiff, reduceIte, Nat.reduceAdd, Nat.reduceBEq, reduceCtorEq, al26, ap24_24, bd26, bs24_1, fa26_1, ix86, ld24, ld26, ln86, st24, st26, implNeutral_eq, es1, h1, h2, h3, h4, h5, ki, wi, q11.rd 1 rfl, q11.rd 3 rfl]
        refine st_set q11 3 rfl fun H10 q12 => ?_
        simp only [List.set_cons_zero, List.set_cons_succ] at q12
        simp -implicitDefEqProofs only [kz, kk0, kk1, kk2, kk3, ↓two_true, ↓two_false, mkv, aggAt, Nat.reduceLeDiff, Nat.reduceSub, Nat.reduceMul, implies_true, Nat.reduceEqDiff, reduceIte, Nat.reduceAdd, Nat.reduceBEq, reduceCtorEq, al26, ap24_24, bd26, bs24_1, fa26_1, ix86, ld24, ld26, ln86, st24, st26, implNeutral_eq, es1, h1, h2, h3, h4, h5, ki, wi, q12.rd 1 rfl, q12.rd 3 rfl]
        -- end1
        exfalso
        rw [arrOk_neu (hsz hr0)] at u3
        cases u3
      ·
        try simp -implicitDefEqProofs only [kz, kk0, kk1, kk2, kk3, ↓two_true, ↓two_false, mkv, aggAt, Nat.reduceLeDiff, Nat.reduceSub, Nat.reduceMul, implies_true, Nat.reduceEqDiff, reduceIte, Nat.reduceAdd, Nat.reduceBEq, reduceCtorEq, al26, ap24_24, bd26, bs24_1, fa26_1, ix86, ld24, ld26, ln86, st24, st26, implNeutral_eq, es1, h1, h2, h3, h4, h5, ki, wi, q11.rd 1 rfl, q11.rd 3 rfl]
        refine st_set q11 3 rfl fun H11 q13 => ?_
        simp only [List.set_cons_zero, List.set_cons_succ] at q13
        simp -implicitDefEqProofs only [kz, kk0, kk1, kk2, kk3, ↓two_true, ↓two_false, mkv, aggAt, Nat.reduceLeDiff, Nat.reduceSub, Nat.reduceMul, implies_true, Nat.reduceEqDiff, reduceIte, Nat.reduceAdd, Nat.reduceBEq, reduceCtorEq, al26, ap24_24, bd26, bs24_1, fa26_1, ix86, ld24, ld26, ln86, st24, st26, implNeutral_eq, es1, h1, h2, h3, h4, h5, ki, wi, q13.rd 1 rfl, q13.rd 3 rfl]
        -- end2
        exact q13.ans 2 0 (by decide) rfl rfl (by unfold redR; rw [if_pos hr0])
  ·
    have hr0 : rs.length ≠ 0 := by simpa using u1
    have hr1 : 0 < rs.length := by omega
    obtain ⟨n, hn⟩ : ∃ n, rs.length = n + 1 := ⟨rs.length - 1, by omega⟩
    have w1 : IntKind.i64.wrap ((rs.length : Int) - 1) = (n : Int) := by rw [IntWalk.i64_in _ (by omega)]; omega
    have w2 : IntKind.i64.wrap ((rs.length : Int) - 2) = (n : Int) - 1 := by rw [IntWalk.i64_in _ (by omega)]; omega
    obtain ⟨b1, o1, cs1, p1, p2, ei1, fr1, fc1, fc2, fi1, fi2⟩ := ixR r (i := n) (by omega)
    obtain ⟨a3, c3, rfl, -⟩ := fi1.op
    obtain ⟨a4, c4, rfl, -⟩ := fi2.op
    try simp -implicitDefEqProofs only [kz, kk0, kk1, kk2, kk3, ↓two_true, ↓two_false, mkv, aggAt, Nat.reduceLeDiff, Nat.reduceSub, Nat.reduceMul, implies_true, Nat.reduceEqDiff, reduceIte, Nat.reduceAdd, Nat.reduceBEq, reduceCtorEq, al26, ap24_24, bd26, bs24_1, fa26_1, ix86, ld24, ld26, ln86, st24, st26, implNeutral_eq, w1, w2, ei1, rd_ext fr1 q1.ext, fc1, fc2, ldA2 fc1 fc2, q1.rd 0 rfl]
    refine (copyA_ok (AR.mk (fi1.ext q1.ext) (fi2.ext q1.ext) (hrl _ (List.getElem_mem _)).1 (hrl _ (List.getElem_mem _)).2)).mono ?_
    rintro _ H12 ⟨p3, p4, rfl, g1⟩
    have q14 := q1.join g1
    simp only [List.map_cons, List.map_nil, List.cons_append, List.nil_append] at q14
    obtain ⟨a5, c5, rfl⟩ := (q14.own 0 rfl).isSlice
    obtain ⟨a6, c6, rfl⟩ := (q14.own 1 rfl).isSlice
    simp -implicitDefEqProofs only [kz, kk0, kk1, kk2, kk3, ↓two_true, ↓two_false, mkv, aggAt, Nat.reduceLeDiff, Nat.reduceSub, Nat.reduceMul, implies_true, Nat.reduceEqDiff, reduceIte, Nat.reduceAdd, Nat.reduceBEq, reduceCtorEq, al26, ap24_24, bd26, bs24_1, fa26_1, ix86, ld24, ld26, ln86, st24, st26, implNeutral_eq, w1, w2, ei1, rd_ext fr1 q14.ext, fc1, fc2, ldA2 fc1 fc2, q14.rd 2 rfl]
    try simp -implicitDefEqProofs only [kz, kk0, kk1, kk2, kk3, ↓two_true, ↓two_false, mkv, aggAt, Nat.reduceLeDiff, Nat.reduceSub, Nat.reduceMul, implies_true, Nat.reduceEqDiff, reduceIte, Nat.reduceAdd, Nat.reduceBEq, reduceCtorEq, al26, ap24_24, bd26, bs24_1, fa26_1, ix86, ld24, ld26, ln86, st24, st26, implNeutral_eq, w1, w2, ei1, rd_ext fr1 q14.ext, fc1, fc2, ldA2 fc1 fc2, q14.rd 2 rfl]
    refine st_box q14 fun H13 q15 => ?_
    simp -implicitDefEqProofs only [kz, kk0, kk1, kk2, kk3, ↓two_true, ↓two_false, mkv, aggAt, Nat.reduceLeDiff, Nat.reduceSub, Nat.reduceMul, implies_true, Nat.reduceEqDiff, reduceIte, Nat.reduceAdd, Nat.reduceBEq, reduceCtorEq, al26, ap24_24, bd26, bs24_1, fa26_1, ix86, ld24, ld26, ln86, st24, st26, implNeutral_eq, w1, w2, ei1, rd_ext fr1 q15.ext, fc1, fc2, ldA2 fc1 fc2, q15.rd 0 rfl, q15.rd 3 rfl]
    refine st_set q15 0 rfl fun H14 q16 => ?_
    simp only [List.set_cons_zero, List.set_cons_succ] at q16
    simp -implicitDefEqProofs only [kz, kk0, kk1, kk2, kk3, ↓two_true, ↓two_false, mkv, aggAt, Nat.reduceLeDiff, Nat.reduceSub, Nat.reduceMul, implies_true, Nat.reduceEqDiff, reduceIte, Nat.reduceAdd, Nat.reduceBEq, reduceCtorEq, al26, ap24_24, bd26, bs24_1, fa26_1, ix86, ld24, ld26, ln86, st24, st26, implNeutral_eq, w1, w2, ei1, rd_ext fr1 q16.ext, fc1, fc2, ldA2 fc1 fc2, q16.rd 0 rfl, q16.rd 3 rfl]
    refine rW_loopQ (σ := Nat × (List Int × List Int) × (Option Addr × Nat) × (Option Addr × Nat)) q16 [0, 1, 6, 12] (fun x tm => tm 13 = .int .i64 ((x.1 : Int) - 1) ∧ x.1 < rs.length ∧ redL s (rs.drop x.1) = (x.2.1, 0) ∧ x.2.1.1.length ≤ 1048576 ∧ x.2.1.2.length ≤ 1048576) (fun x L => ((L.set 0 (.own (.box H12.length [.slice x.2.2.1.1 x.2.1.1.length x.2.2.1.2, .slice x.2.2.2.1 x.2.1.2.length x.2.2.2.2]))).set 1 (.own (.row (.slice x.2.2.1.1 x.2.1.1.length x.2.2.1.2) x.2.1.1))).set 2 (.own (.row (.slice x.2.2.2.1 x.2.1.2.length x.2.2.2.2) x.2.1.2))) (fun x => x.1) (n, rs[n], (a5, c5), (a6, c6)) ⟨rfl, by simp only; omega, by have := redL_last (s := s) hr1; simpa [hn] using this, (hrl _ (List.getElem_mem _)).1, (hrl _ (List.getElem_mem _)).2⟩ rfl ?_
    rintro ⟨k, ⟨S, D⟩, ⟨av, cv⟩, aw, cw⟩ tm2 H15 ⟨h6, h7, h8, h9, -⟩ ⟨ki, hk1, hred, hS1, hD1⟩ q17
    simp -implicitDefEqProofs only [kz, kk0, kk1, kk2, kk3, ↓two_true, ↓two_false, mkv, aggAt, Nat.reduceLeDiff, Nat.reduceSub, Nat.reduceMul, implies_true, Nat.reduceEqDiff, reduceIte, Nat.reduceAdd, Nat.reduceBEq, reduceCtorEq, al26, ap24_24, bd26, bs24_1, fa26_1, ix86, ld24, ld26, ln86, st24, st26, w1, w2, ei1, rd_ext fr1 q16.ext, fc1, fc2, ldA2 fc1 fc2] at h6 h7 h8 h9
    simp only [List.set_cons_zero, List.set_cons_succ] at q17
    simp only at ki hk1 hred hS1 hD1
    simp -implicitDefEqProofs only [kz, kk0, kk1, kk2, kk3, ↓two_true, ↓two_false, mkv, aggAt, Nat.reduceLeDiff, Nat.reduceSub, Nat.reduceMul, implies_true, Nat.reduceEqDiff, reduceIte, Nat.reduceAdd, Nat.reduceBEq, reduceCtorEq, al26, ap24_24, bd26, bs24_1, fa26_1, ix86, ld24, ld26, ln86, st24, st26, implNeutral_eq, w1, w2, ei1, rd_ext fr1 q17.ext, fc1, fc2, ldA2 fc1 fc2, h6, h7, h8, h9, ki, q17.rd 0 rfl, q17.rd 3 rfl]
    refine two_intro (fun u4 => ?_) (fun u4 => ?_)
    ·
      have hk : 0 ≤ (k : Int) - 1 := by simpa using u4
      obtain ⟨j, rfl⟩ : ∃ j, k = j + 1 := ⟨k - 1, by omega⟩
      have e1 : ((j + 1 : Nat) : Int) - 1 = (j : Int) := by omega
      have wj : IntKind.i64.wrap ((j : Int) - 1) = (j : Int) - 1 := IntWalk.i64_in _ (by omega)
      have hjn : j < rs.length := by omega
      obtain ⟨b2, o2, cs2, p5, p6, ei2, fr2, fc3, fc4, fi3, fi4⟩ := ixR r hjn
      obtain ⟨a7, c7, rfl, -⟩ := fi3.op
      obtain ⟨a8, c8, rfl, -⟩ := fi4.op
      try simp -implicitDefEqProofs only [kz, kk0, kk1, kk2, kk3, ↓two_true, ↓two_false, mkv, aggAt, Nat.reduceLeDiff, Nat.reduceSub, Nat.reduceMul, implies_true, Nat.reduceEqDiff, reduceIte, Nat.reduceAdd, Nat.reduceBEq, reduceCtorEq, al26, ap24_24, bd26, bs24_1, fa26_1, ix86, ld24, ld26, ln86, st24, st26, implNeutral_eq, w1, w2, ei1, rd_ext fr1 q17.ext, fc1, fc2, ldA2 fc1 fc2, ei2, rd_ext fr2 q17.ext, fc3, fc4, ldA2 fc3 fc4, h6, h7, h8, h9, ki, e1, wj, q17.rd 0 rfl, q17.rd 3 rfl]
      refine (implEachTwo_ok  (AR.mk (fi3.ext q17.ext) (fi4.ext q17.ext) (hrl _ (List.getElem_mem _)).1 (hrl _ (List.getElem_mem _)).2) (q17.ar 1 2 rfl rfl (by (try simp only [List.length_cons, List.length_nil, List.length_append, List.length_replicate, List.length_map, List.length_take, List.length_drop]); omega) (by (try simp only [List.length_cons, List.length_nil, List.length_append, List.length_replicate, List.length_map, List.length_take, List.length_drop]); omega))).mono ?_
      rintro _ H16 ⟨p7, p8, rfl, g2⟩
      obtain ⟨R1, hR1⟩ : ∃ R, each2R s rs[j].1 rs[j].2 S D = R := ⟨_, rfl⟩
      rw [hR1] at g2 ⊢
      have q18 := q17.join g2
      simp only [List.map_cons, List.map_nil, List.cons_append, List.nil_append] at q18
      obtain ⟨a9, c9, rfl⟩ := (q18.own 0 rfl).isSlice
      obtain ⟨a10, c10, rfl⟩ := (q18.own 1 rfl).isSlice
      obtain ⟨hl1, hl2⟩ := each2R_lim hR1
      simp -implicitDefEqProofs only [kz, kk0, kk1, kk2, kk3, ↓two_true, ↓two_false, mkv, aggAt, Nat.reduceLeDiff, Nat.reduceSub, Nat.reduceMul, implies_true, Nat.reduceEqDiff, reduceIte, Nat.reduceAdd, Nat.reduceBEq, reduceCtorEq, al26, ap24_24, bd26, bs24_1, fa26_1, ix86, ld24, ld26, ln86, st24, st26, implNeutral_eq, w1, w2, ei1, rd_ext fr1 q18.ext, fc1, fc2, ldA2 fc1 fc2, ei2, rd_ext fr2 q18.ext, fc3, fc4, ldA2 fc3 fc4, h6, h7, h8, h9, ki, e1, wj, q18.rd 2 rfl, q18.rd 5 rfl, q17.rd 0 rfl, q17.rd 3 rfl]
      refine st_box q18 fun H17 q19 => ?_
      simp -implicitDefEqProofs only [kz, kk0, kk1, kk2, kk3, ↓two_true, ↓two_false, mkv, aggAt, Nat.reduceLeDiff, Nat.reduceSub, Nat.reduceMul, implies_true, Nat.reduceEqDiff, reduceIte, Nat.reduceAdd, Nat.reduceBEq, reduceCtorEq, al26, ap24_24, bd26, bs24_1, fa26_1, ix86, ld24, ld26, ln86, st24, st26, implNeutral_eq, w1, w2, ei1, rd_ext fr1 q19.ext, fc1, fc2, ldA2 fc1 fc2, ei2, rd_ext fr2 q19.ext, fc3, fc4, ldA2 fc3 fc4, h6, h7, h8, h9, ki, e1, wj, q19.rd 0 rfl, q19.rd 3 rfl, q19.rd 6 rfl, q17.rd 0 rfl, q17.rd 3 rfl, q18.rd 2 rfl, q18.rd 5 rfl]
      refine st_set q19 0 rfl fun H18 q20 => ?_
      simp only [List.set_cons_zero, List.set_cons_succ] at q20
      simp -implicitDefEqProofs only [kz, kk0, kk1, kk2, kk3, ↓two_true, ↓two_false, mkv, aggAt, Nat.reduceLeDiff, Nat.reduceSub, Nat.reduceMul, implies_true, Nat.reduceEqDiff, reduceIte, Nat.reduceAdd, Nat.reduceBEq, reduceCtorEq, al26, ap24_24, bd26, bs24_1, fa26_1, ix86, ld24, ld26, ln86, st24, st26, implNeutral_eq, w1, w2, ei1, rd_ext fr1 q20.ext, fc1, fc2, ldA2 fc1 fc2, ei2, rd_ext fr2 q20.ext, fc3, fc4, ldA2 fc3 fc4, h6, h7, h8, h9, ki, e1, wj, q20.rd 0 rfl, q20.rd 3 rfl, q20.rd 6 rfl, q17.rd 0 rfl, q17.rd 3 rfl, q18.rd 2 rfl, q18.rd 5 rfl, q19.rd 0 rfl, q19.rd 3 rfl, q19.rd 6 rfl]
      try simp -implicitDefEqProofs only [kz, kk0, kk1, kk2, kk3, ↓two_true, ↓two_false, mkv, aggAt, Nat.reduceLeDiff, Nat.reduceSub, Nat.reduceMul, implies_true, Nat.reduceEqDiff, reduceIte, Nat.reduceAdd, Nat.reduceBEq, reduceCtorEq, al26, ap24_24, bd26, bs24_1, fa26_1, ix86, ld24, ld26, ln86, st24, st26, implNeutral_eq, w1, w2, ei1, rd_ext fr1 q20.ext, fc1, fc2, ldA2 fc1 fc2, ei2, rd_ext fr2 q20.ext, fc3, fc4, ldA2 fc3 fc4, h6, h7, h8, h9, ki, e1, wj, q20.rd 0 rfl, q20.rd 3 rfl, q20.rd 6 rfl]
      refine two_intro (fun u5 => ?_) (fun u5 => ?_)
      ·
        have hne : R1.2 ≠ 0 := by simpa using u5
        have hst := redL_drop (s := s) (rs := rs) (k := j) hk1
        rw [hred] at hst
        unfold redS at hst
        rw [if_pos rfl, hR1] at hst
        have hfin := redL_err (s := s) hjn (by rw [hst]; exact hne)
        rw [hst] at hfin
        have h12 := each2R_err (s := s) (sa := rs[j].1) (da := rs[j].2) (sb := S) (db := D) (by rw [hR1]; exact hne)
        rw [hR1] at h12
        try simp -implicitDefEqProofs only [kz, kk0, kk1, kk2, kk3, ↓two_true, ↓two_false, mkv, aggAt, Nat.reduceLeDiff, Nat.reduceSub, Nat.reduceMul, implies_true, Nat.reduceEqDiff, reduceIte, Nat.reduceAdd, Nat.reduceBEq, reduceCtorEq, al26, ap24_24, bd26, bs24_1, fa26_1, ix86, ld24, ld26, ln86, st24, st26, implNeutral_eq, w1, w2, ei1, rd_ext fr1 q20.ext, fc1, fc2, ldA2 fc1 fc2, ei2, rd_ext fr2 q20.ext, fc3, fc4, ldA2 fc3 fc4, h6, h7, h8, h9, ki, e1, wj, q20.rd 0 rfl, q20.rd 3 rfl, q20.rd 6 rfl]
        refine st_set q20 6 rfl fun H19 q21 => ?_
        simp only [List.set_cons_zero, List.set_cons_succ] at q21
        simp -implicitDefEqProofs only [kz, kk0, kk1, kk2, kk3, ↓two_true, ↓two_false, mkv, aggAt, Nat.reduceLeDiff, Nat.reduceSub, Nat.reduceMul, implies_true, Nat.reduceEqDiff, reduceIte, Nat.reduceAdd, Nat.reduceBEq, reduceCtorEq, al26, ap24_24, bd26, bs24_1, fa26_1, ix86, ld24, ld26, ln86, st24, st26, implNeutral_eq, w1, w2, ei1, rd_ext fr1 q21.ext, fc1, fc2, ldA2 fc1 fc2, ei2, rd_ext fr2 q21.ext, fc3, fc4, ldA2 fc3 fc4, h6, h7, h8, h9, ki, e1, wj, q21.rd 0 rfl, q21.rd 3 rfl, q21.rd 6 rfl]
        -- end3
        exact q21.err (by unfold redR; rw [if_neg hr0, hfin]; exact Prod.ext h12 rfl)
      ·
        have hz : R1.2 = 0 := by simpa using u5
        have hst := redL_drop (s := s) (rs := rs) (k := j) hk1
        rw [hred] at hst
        unfold redS at hst
        rw [if_pos rfl, hR1] at hst
        try simp -implicitDefEqProofs only [kz, kk0, kk1, kk2, kk3, ↓two_true, ↓two_false, mkv, aggAt, Nat.reduceLeDiff, Nat.reduceSub, Nat.reduceMul, implies_true, Nat.reduceEqDiff, reduceIte, Nat.reduceAdd, Nat.reduceBEq, reduceCtorEq, al26, ap24_24, bd26, bs24_1, fa26_1, ix86, ld24, ld26, ln86, st24, st26, implNeutral_eq, w1, w2, ei1, rd_ext fr1 q20.ext, fc1, fc2, ldA2 fc1 fc2, ei2, rd_ext fr2 q20.ext, fc3, fc4, ldA2 fc3 fc4, h6, h7, h8, h9, ki, e1, wj, q20.rd 0 rfl, q20.rd 3 rfl, q20.rd 6 rfl]
        refine st_set q20 3 rfl fun H20 q22 => ?_
        simp only [List.set_cons_zero, List.set_cons_succ] at q22
        simp -implicitDefEqProofs only [kz, kk0, kk1, kk2, kk3, ↓two_true, ↓two_false, mkv, aggAt, Nat.reduceLeDiff, Nat.reduceSub, Nat.reduceMul, implies_true, Nat.reduceEqDiff, reduceIte, Nat.reduceAdd, Nat.reduceBEq, reduceCtorEq, al26, ap24_24, bd26, bs24_1, fa26_1, ix86, ld24, ld26, ln86, st24, st26, implNeutral_eq, w1, w2, ei1, rd_ext fr1 q22.ext, fc1, fc2, ldA2 fc1 fc2, ei2, rd_ext fr2 q22.ext, fc3, fc4, ldA2 fc3 fc4, h6, h7, h8, h9, ki, e1, wj, q22.rd 0 rfl, q22.rd 3 rfl, q22.rd 6 rfl]
        -- back loop2
        refine ⟨(j, R1.1, (a9, c9), (a10, c10)), (by simp only; omega), ⟨rfl, rfl, rfl, rfl, trivial⟩, ⟨rfl, by simp only; omega, by simp only; rw [hst]; exact Prod.ext rfl hz, by simp only; omega, by simp only; omega⟩, ?_⟩
        simp only [List.set_cons_zero, List.set_cons_succ]
        exact q22.pick [3, 1, 2, 6] _ rfl (by decide)
    ·
      have hk0 : k = 0 := by have : ¬ (0 : Int) ≤ (k : Int) - 1 := (by simpa using u4); omega
      subst hk0
      rw [List.drop_zero] at hred
      try simp -implicitDefEqProofs only [kz, kk0, kk1, kk2, kk3, ↓two_true, ↓two_false, mkv, aggAt, Nat.reduceLeDiff, Nat.reduceSub, Nat.reduceMul, implies_true, Nat.reduceEqDiff, reduceIte, Nat.reduceAdd, Nat.reduceBEq, reduceCtorEq, al26, ap24_24, bd26, bs24_1, fa26_1, ix86, ld24, ld26, ln86, st24, st26, implNeutral_eq, w1, w2, ei1, rd_ext fr1 q17.ext, fc1, fc2, ldA2 fc1 fc2, h6, h7, h8, h9, ki, q17.rd 0 rfl, q17.rd 3 rfl]
      refine st_set q17 3 rfl fun H21 q23 => ?_
      simp only [List.set_cons_zero, List.set_cons_succ] at q23
      simp -implicitDefEqProofs only [kz, kk0, kk1, kk2, kk3, ↓two_true, ↓two_false, mkv, aggAt, Nat.reduceLeDiff, Nat.reduceSub, Nat.reduceMul, implies_true, Nat.reduceEqDiff, reduceIte, Nat.reduceAdd, Nat.reduceBEq, reduceCtorEq, al26, ap24_24, bd26, bs24_1, fa26_1, ix86, ld24, ld26, ln86, st24, st26, implNeutral_eq, w1, w2, ei1, rd_ext fr1 q23.ext, fc1, fc2, ldA2 fc1 fc2, h6, h7, h8, h9, ki, q23.rd 0 rfl, q23.rd 3 rfl]
      -- end4
      exact q23.ans 1 2 (by decide) rfl rfl (by unfold redR; rw [if_neg hr0]; exact hred)

def reduceR (s : Int) (sa da : List Int) : (List Int × List Int) × Int := if (arrOk sa da && sg2 s) = true then (if sa.length = 0 then ((sa, da), 0) else redR s (rowsR sa da) sa.tail) else (([], []), 1)
/-- All rows of an array that is right: how long they are. -/
theorem rowsR_lim {sa da : List Int} (h : arrOk sa da = true) (hne : sa.length ≠ 0) : (rowsR sa da).length ≤ 300 ∧ ((rowsR sa da).length : Int) = sa.headD 0 ∧ (∀ r ∈ rowsR sa da, r.1 = sa.tail ∧ r.1.length ≤ 3 ∧ (r.2.length : Int) = sizeI sa.tail ∧ r.2.length ≤ 300 ∧ r.2.all numOk = true) := by
  have hne' : sa ≠ [] := by rintro rfl; exact hne rfl
  have h1 := rowsR_len' h hne'
  refine ⟨?_, h1, fun r hr => ?_⟩
  · obtain ⟨x, tl, e⟩ := List.exists_cons_of_ne_nil hne'
    rw [e] at h h1
    obtain ⟨n, e2, hn, _⟩ := arrOk_rows h
    rw [e]
    rw [rowsR_len e2]; exact hn
  · obtain ⟨i, hi, e⟩ := List.mem_iff_getElem.1 hr
    obtain ⟨e1, e2, e3, e4, e5⟩ := rowsR_row h (List.getElem?_eq_getElem hi)
    rw [e] at e1 e3 e4 e5
    refine ⟨e1, ?_, e3, e5, e4⟩
    rw [e1]
    exact (sizeI_ok e2).1
theorem implReduce_ok {H : AH} {s : Int} {pa qa : Value} {sa da : List Int} (a : AR H pa qa sa da) (hsz : (rowsR sa da).length = 0 → 0 ≤ sizeI sa.tail) : CallsA Try.prog 19 #[.int .i64 s, .agg #[pa, qa]] H fun r H' => Ans1 H H' r (reduceR s sa da) := by
  have al := a.l1
  have bl := a.l2
  obtain ⟨za, zc, zb, zd, rfl, rfl⟩ := a.o1
  have q := (LX.nil (H := H))
  refine w19 ?_
  unfold k19
  simp -implicitDefEqProofs only [kz, kk0, kk1, kk2, kk3, ↓two_true, ↓two_false, mkv, aggAt, Nat.reduceLeDiff, Nat.reduceSub, Nat.reduceMul, implies_true, Nat.reduceEqDiff, reduceIte, Nat.reduceAdd, Nat.reduceBEq, reduceCtorEq, al26, bd26, fa26_0, ld24, ld26, ln24, sn24, sl24, st26, twoSign_eq]
  refine st_box q fun H1 q1 => ?_
  simp -implicitDefEqProofs only [kz, kk0, kk1, kk2, kk3, ↓two_true, ↓two_false, mkv, aggAt, Nat.reduceLeDiff, Nat.reduceSub, Nat.reduceMul, implies_true, Nat.reduceEqDiff, reduceIte, Nat.reduceAdd, Nat.reduceBEq, reduceCtorEq, al26, bd26, fa26_0, ld24, ld26, ln24, sn24, sl24, st26, twoSign_eq, q1.rd 0 rfl]
  refine st_box q1 fun H2 q2 => ?_
  simp -implicitDefEqProofs only [kz, kk0, kk1, kk2, kk3, ↓two_true, ↓two_false, mkv, aggAt, Nat.reduceLeDiff, Nat.reduceSub, Nat.reduceMul, implies_true, Nat.reduceEqDiff, reduceIte, Nat.reduceAdd, Nat.reduceBEq, reduceCtorEq, al26, bd26, fa26_0, ld24, ld26, ln24, sn24, sl24, st26, twoSign_eq, q2.rd 0 rfl, q2.rd 1 rfl]
  refine (implOk_ar (a.ext q2.ext)).mono ?_
  rintro _ H3 ⟨rfl, he1⟩
  have q3 := q2.extd he1
  simp -implicitDefEqProofs only [kz, kk0, kk1, kk2, kk3, ↓two_true, ↓two_false, mkv, aggAt, Nat.reduceLeDiff, Nat.reduceSub, Nat.reduceMul, implies_true, Nat.reduceEqDiff, reduceIte, Nat.reduceAdd, Nat.reduceBEq, reduceCtorEq, al26, bd26, fa26_0, ld24, ld26, ln24, sn24, sl24, st26, twoSign_eq, q3.rd 0 rfl, q3.rd 1 rfl]
  refine two_intro (fun u1 => ?_) (fun u1 => ?_)
  ·
    try simp -implicitDefEqProofs only [kz, kk0, kk1, kk2, kk3, ↓two_true, ↓two_false, mkv, aggAt, Nat.reduceLeDiff, Nat.reduceSub, Nat.reduceMul, implies_true, Nat.reduceEqDiff, reduceIte, Nat.reduceAdd, Nat.reduceBEq, reduceCtorEq, al26, bd26, fa26_0, ld24, ld26, ln24, sn24, sl24, st26, twoSign_eq, q3.rd 0 rfl, q3.rd 1 rfl]
    refine st_set q3 0 rfl fun H4 q4 => ?_
    simp only [List.set_cons_zero, List.set_cons_succ] at q4
    simp -implicitDefEqProofs only [kz, kk0, kk1, kk2, kk3, ↓two_true, ↓two_false, mkv, aggAt, Nat.reduceLeDiff, Nat.reduceSub, Nat.reduceMul, implies_true, Nat.reduceEqDiff, reduceIte, Nat.reduceAdd, Nat.reduceBEq, reduceCtorEq, al26, bd26, fa26_0, ld24, ld26, ln24, sn24, sl24, st26, twoSign_eq, q4.rd 0 rfl, q4.rd 1 rfl]
    -- end1
    exact q4.err (by simp [reduceR, show arrOk sa da = false by simpa using u1])
  ·
    have v1 : arrOk sa da = true := by simpa using u1
    try simp -implicitDefEqProofs only [kz, kk0, kk1, kk2, kk3, ↓two_true, ↓two_false, mkv, aggAt, Nat.reduceLeDiff, Nat.reduceSub, Nat.reduceMul, implies_true, Nat.reduceEqDiff, reduceIte, Nat.reduceAdd, Nat.reduceBEq, reduceCtorEq, al26, bd26, fa26_0, ld24, ld26, ln24, sn24, sl24, st26, twoSign_eq, q3.rd 0 rfl, q3.rd 1 rfl]
    refine two_intro (fun u2 => ?_) (fun u2 => ?_)
    ·
      try simp -implicitDefEqProofs only [kz, kk0, kk1, kk2, kk3, ↓two_true, ↓two_false, mkv, aggAt, Nat.reduceLeDiff, Nat.reduceSub, Nat.reduceMul, implies_true, Nat.reduceEqDiff, reduceIte, Nat.reduceAdd, Nat.reduceBEq, reduceCtorEq, al26, bd26, fa26_0, ld24, ld26, ln24, sn24, sl24, st26, twoSign_eq, q3.rd 0 rfl, q3.rd 1 rfl]
      refine st_set q3 0 rfl fun H5 q5 => ?_
      simp only [List.set_cons_zero, List.set_cons_succ] at q5
      simp -implicitDefEqProofs only [kz, kk0, kk1, kk2, kk3, ↓two_true, ↓two_false, mkv, aggAt, Nat.reduceLeDiff, Nat.reduceSub, Nat.reduceMul, implies_true, Nat.reduceEqDiff, reduceIte, Nat.reduceAdd, Nat.reduceBEq, reduceCtorEq, al26, bd26, fa26_0, ld24, ld26, ln24, sn24, sl24, st26, twoSign_eq, q5.rd 0 rfl, q5.rd 1 rfl]
      -- end2
      exact q5.err (by simp [reduceR, show sg2 s = false by simpa using u2])
    ·
      have v2 : sg2 s = true := by simpa using u2
      try simp -implicitDefEqProofs only [kz, kk0, kk1, kk2, kk3, ↓two_true, ↓two_false, mkv, aggAt, Nat.reduceLeDiff, Nat.reduceSub, Nat.reduceMul, implies_true, Nat.reduceEqDiff, reduceIte, Nat.reduceAdd, Nat.reduceBEq, reduceCtorEq, al26, bd26, fa26_0, ld24, ld26, ln24, sn24, sl24, st26, twoSign_eq, q3.rd 0 rfl, q3.rd 1 rfl]
      refine two_intro (fun u3 => ?_) (fun u3 => ?_)
      ·
        have v3 : sa.length = 0 := by simpa using u3
        try simp -implicitDefEqProofs only [kz, kk0, kk1, kk2, kk3, ↓two_true, ↓two_false, mkv, aggAt, Nat.reduceLeDiff, Nat.reduceSub, Nat.reduceMul, implies_true, Nat.reduceEqDiff, reduceIte, Nat.reduceAdd, Nat.reduceBEq, reduceCtorEq, al26, bd26, fa26_0, ld24, ld26, ln24, sn24, sl24, st26, twoSign_eq, q3.rd 0 rfl, q3.rd 1 rfl]
        refine (copyA_ok (a.ext q3.ext)).mono ?_
        rintro _ H6 ⟨p1, p2, rfl, g1⟩
        have q6 := q3.join g1
        simp only [List.map_cons, List.map_nil, List.cons_append, List.nil_append] at q6
        obtain ⟨a1, c1, rfl⟩ := (q6.own 0 rfl).isSlice
        obtain ⟨a2, c2, rfl⟩ := (q6.own 1 rfl).isSlice
        simp -implicitDefEqProofs only [kz, kk0, kk1, kk2, kk3, ↓two_true, ↓two_false, mkv, aggAt, Nat.reduceLeDiff, Nat.reduceSub, Nat.reduceMul, implies_true, Nat.reduceEqDiff, reduceIte, Nat.reduceAdd, Nat.reduceBEq, reduceCtorEq, al26, bd26, fa26_0, ld24, ld26, ln24, sn24, sl24, st26, twoSign_eq, q6.rd 2 rfl, q6.rd 3 rfl]
        refine st_set q6 2 rfl fun H7 q7 => ?_
        simp only [List.set_cons_zero, List.set_cons_succ] at q7
        simp -implicitDefEqProofs only [kz, kk0, kk1, kk2, kk3, ↓two_true, ↓two_false, mkv, aggAt, Nat.reduceLeDiff, Nat.reduceSub, Nat.reduceMul, implies_true, Nat.reduceEqDiff, reduceIte, Nat.reduceAdd, Nat.reduceBEq, reduceCtorEq, al26, bd26, fa26_0, ld24, ld26, ln24, sn24, sl24, st26, twoSign_eq, q7.rd 2 rfl, q7.rd 3 rfl]
        -- end3
        exact q7.ans 0 1 (by decide) rfl rfl (by unfold reduceR; rw [v1, v2, if_pos (by rfl), if_pos v3])
      ·
        have v3 : sa.length ≠ 0 := by simpa using u3
        obtain ⟨m1, m2, m3⟩ := rowsR_lim v1 v3
        have hsl3 : sa.length ≤ 3 := (sizeI_ok (by have := (arrOk_size v1).1; omega)).1
        have htl : sa.tail.length ≤ 3 := by simp; omega
        try simp -implicitDefEqProofs only [kz, kk0, kk1, kk2, kk3, ↓two_true, ↓two_false, mkv, aggAt, Nat.reduceLeDiff, Nat.reduceSub, Nat.reduceMul, implies_true, Nat.reduceEqDiff, reduceIte, Nat.reduceAdd, Nat.reduceBEq, reduceCtorEq, al26, bd26, fa26_0, ld24, ld26, ln24, sn24, sl24, st26, twoSign_eq, q3.rd 0 rfl, q3.rd 1 rfl]
        refine (implRows_ok (a.ext q3.ext)).mono ?_
        rintro rv1 H8 ⟨⟨ys1, nw1, cv1⟩, he2⟩
        rw [show rowsA sa da = rowsR sa da by unfold rowsA; rw [v1]; rfl] at nw1 cv1
        have q8 := q3.nrows nw1 cv1 he2
        obtain ⟨a3, c3, rfl, -⟩ := (q8.rowsF 0 rfl).1
        obtain ⟨a4, c4, ev1, hv1⟩ := IntRow.tl a.os (by omega)
        simp -implicitDefEqProofs only [kz, kk0, kk1, kk2, kk3, ↓two_true, ↓two_false, mkv, aggAt, Nat.reduceLeDiff, Nat.reduceSub, Nat.reduceMul, implies_true, Nat.reduceEqDiff, reduceIte, Nat.reduceAdd, Nat.reduceBEq, reduceCtorEq, al26, bd26, fa26_0, ld24, ld26, ln24, sn24, sl24, st26, twoSign_eq, ev1, q8.rd 1 rfl, q8.rd 2 rfl, q3.rd 0 rfl, q3.rd 1 rfl]
        refine (implReduced_ok (s := s) (q8.rowsF 0 rfl).1 (hv1.ext q8.ext) (by omega) (by omega) (fun r hr => ⟨by have := (m3 r hr).2.1; omega, by have := (m3 r hr).2.2.2.1; omega⟩) hsz ).mono ?_
        rintro _ H9 ⟨p3, p4, rfl, g2⟩
        obtain ⟨R1, hR1⟩ : ∃ R, redR s (rowsR sa da) sa.tail = R := ⟨_, rfl⟩
        rw [hR1] at g2 ⊢
        have q9 := q8.join g2
        simp only [List.map_cons, List.map_nil, List.cons_append, List.nil_append] at q9
        obtain ⟨a5, c5, rfl⟩ := (q9.own 0 rfl).isSlice
        obtain ⟨a6, c6, rfl⟩ := (q9.own 1 rfl).isSlice
        simp -implicitDefEqProofs only [kz, kk0, kk1, kk2, kk3, ↓two_true, ↓two_false, mkv, aggAt, Nat.reduceLeDiff, Nat.reduceSub, Nat.reduceMul, implies_true, Nat.reduceEqDiff, reduceIte, Nat.reduceAdd, Nat.reduceBEq, reduceCtorEq, al26, bd26, fa26_0, ld24, ld26, ln24, sn24, sl24, st26, twoSign_eq, ev1, q9.rd 3 rfl, q9.rd 4 rfl, q3.rd 0 rfl, q3.rd 1 rfl, q8.rd 1 rfl, q8.rd 2 rfl]
        refine st_set q9 3 rfl fun H10 q10 => ?_
        simp only [List.set_cons_zero, List.set_cons_succ] at q10
        simp -implicitDefEqProofs only [kz, kk0, kk1, kk2, kk3, ↓two_true, ↓two_false, mkv, aggAt, Nat.reduceLeDiff, Nat.reduceSub, Nat.reduceMul, implies_true, Nat.reduceEqDiff, reduceIte, Nat.reduceAdd, Nat.reduceBEq, reduceCtorEq, al26, bd26, fa26_0, ld24, ld26, ln24, sn24, sl24, st26, twoSign_eq, ev1, q10.rd 3 rfl, q10.rd 4 rfl, q3.rd 0 rfl, q3.rd 1 rfl, q8.rd 1 rfl, q8.rd 2 rfl, q9.rd 3 rfl, q9.rd 4 rfl]
        -- end4
        exact q10.ans 0 1 (by decide) rfl rfl (by unfold reduceR; rw [v1, v2, if_pos (by rfl), if_neg v3]; exact hR1)

theorem getD_lt {α : Type} {l : List α} {i : Nat} {d : α} (h : i < l.length) : l.getD i d = l[i] := by rw [List.getD_eq_getElem?_getD, List.getElem?_eq_getElem h]; rfl
theorem headD_get {l : List Int} (h : 0 < l.length) : l.headD 0 = l[0] := by
  cases l with
  | nil => simp at h
  | cons x l => rfl
theorem sameArray_ok {H : AH} {pa qa pb qb : Value} {sa da sb db : List Int} (a : AR H pa qa sa da) (b : AR H pb qb sb db) : CallsA Try.prog 29 #[.agg #[pa, qa], .agg #[pb, qb]] H fun r H' => r = .bool (sa == sb && da == db) ∧ ∃ K, H' = H ++ K := by
  have al := a.l1
  have bl := a.l2
  obtain ⟨za, zc, zb, zd, rfl, rfl⟩ := a.o1
  obtain ⟨ya, yc, yb, yd, rfl, rfl⟩ := b.o1
  have q := (LX.nil (H := H))
  refine w29 ?_
  unfold k29
  simp -implicitDefEqProofs only [kz, kk0, kk1, kk2, kk3, ↓two_true, ↓two_false, mkv, aggAt, Nat.reduceLeDiff, Nat.reduceSub, Nat.reduceMul, implies_true, Nat.reduceEqDiff, reduceIte, Nat.reduceAdd, Nat.reduceBEq, reduceCtorEq, fa26_0, fa26_1, ld24]
  refine st_box q fun H1 q1 => ?_
  simp -implicitDefEqProofs only [kz, kk0, kk1, kk2, kk3, ↓two_true, ↓two_false, mkv, aggAt, Nat.reduceLeDiff, Nat.reduceSub, Nat.reduceMul, implies_true, Nat.reduceEqDiff, reduceIte, Nat.reduceAdd, Nat.reduceBEq, reduceCtorEq, fa26_0, fa26_1, ld24, q1.rd 0 rfl]
  refine st_box q1 fun H2 q2 => ?_
  have es1 := fun Φ => (sameInts_ok (a.os.ext q2.ext) (b.os.ext q2.ext) (by (try simp only [List.length_cons, List.length_nil, List.length_append, List.length_replicate, List.length_map, List.length_take, List.length_drop]); omega)).eq0 (Φ := Φ)
  simp -implicitDefEqProofs only [kz, kk0, kk1, kk2, kk3, ↓two_true, ↓two_false, mkv, aggAt, Nat.reduceLeDiff, Nat.reduceSub, Nat.reduceMul, implies_true, Nat.reduceEqDiff, reduceIte, Nat.reduceAdd, Nat.reduceBEq, reduceCtorEq, fa26_0, fa26_1, ld24, es1, q2.rd 0 rfl, q2.rd 1 rfl]
  refine two_intro (fun u1 => ?_) (fun u1 => ?_)
  ·
    have es2 := fun Φ => (sameInts_ok (a.od.ext q2.ext) (b.od.ext q2.ext) (by (try simp only [List.length_cons, List.length_nil, List.length_append, List.length_replicate, List.length_map, List.length_take, List.length_drop]); omega)).eq0 (Φ := Φ)
    try simp -implicitDefEqProofs only [kz, kk0, kk1, kk2, kk3, ↓two_true, ↓two_false, mkv, aggAt, Nat.reduceLeDiff, Nat.reduceSub, Nat.reduceMul, implies_true, Nat.reduceEqDiff, reduceIte, Nat.reduceAdd, Nat.reduceBEq, reduceCtorEq, fa26_0, fa26_1, ld24, es1, es2, q2.rd 0 rfl, q2.rd 1 rfl]
    -- end1
    exact ⟨by rw [u1, Bool.true_and], q2.ext⟩
  ·
    try simp -implicitDefEqProofs only [kz, kk0, kk1, kk2, kk3, ↓two_true, ↓two_false, mkv, aggAt, Nat.reduceLeDiff, Nat.reduceSub, Nat.reduceMul, implies_true, Nat.reduceEqDiff, reduceIte, Nat.reduceAdd, Nat.reduceBEq, reduceCtorEq, fa26_0, fa26_1, ld24, es1, q2.rd 0 rfl, q2.rd 1 rfl]
    -- end2
    exact ⟨by rw [u1, Bool.false_and], q2.ext⟩

theorem scalarOf_ok {H : AH} {x : Int} (hx : numOk x = true) : CallsA Try.prog 25 #[.int .i64 x] H fun r H' => ∃ b, r = .tuple #[.agg #[.slice none 0 0, .slice (some ⟨b, 0, none⟩) 1 1], .bool true] ∧ LD none H H' [.row (.slice (some ⟨b, 0, none⟩) 1 1) [x]] := by
  have q := (LX.nil (H := H))
  refine w25 ?_
  unfold k25
  simp -implicitDefEqProofs only [kz, kk0, kk1, kk2, kk3, ↓two_true, ↓two_false, mkv, aggAt, Nat.reduceLeDiff, Nat.reduceSub, Nat.reduceMul, implies_true, Nat.reduceEqDiff, reduceIte, Nat.reduceAdd, Nat.reduceBEq, reduceCtorEq, al26, bd26, bs24_1, ld26, st26, implNumOk_eq]
  refine st_box q fun H1 q1 => ?_
  simp -implicitDefEqProofs only [kz, kk0, kk1, kk2, kk3, ↓two_true, ↓two_false, mkv, aggAt, Nat.reduceLeDiff, Nat.reduceSub, Nat.reduceMul, implies_true, Nat.reduceEqDiff, reduceIte, Nat.reduceAdd, Nat.reduceBEq, reduceCtorEq, al26, bd26, bs24_1, ld26, st26, implNumOk_eq, q1.rd 0 rfl]
  refine two_intro (fun u1 => ?_) (fun u1 => ?_)
  ·
    try simp -implicitDefEqProofs only [kz, kk0, kk1, kk2, kk3, ↓two_true, ↓two_false, mkv, aggAt, Nat.reduceLeDiff, Nat.reduceSub, Nat.reduceMul, implies_true, Nat.reduceEqDiff, reduceIte, Nat.reduceAdd, Nat.reduceBEq, reduceCtorEq, al26, bd26, bs24_1, ld26, st26, implNumOk_eq, q1.rd 0 rfl]
    refine st_set q1 0 rfl fun H2 q2 => ?_
    simp only [List.set_cons_zero, List.set_cons_succ] at q2
    simp -implicitDefEqProofs only [kz, kk0, kk1, kk2, kk3, ↓two_true, ↓two_false, mkv, aggAt, Nat.reduceLeDiff, Nat.reduceSub, Nat.reduceMul, implies_true, Nat.reduceEqDiff, reduceIte, Nat.reduceAdd, Nat.reduceBEq, reduceCtorEq, al26, bd26, bs24_1, ld26, st26, implNumOk_eq, q2.rd 0 rfl]
    -- end1
    rw [hx] at u1; cases u1
  ·
    try simp -implicitDefEqProofs only [kz, kk0, kk1, kk2, kk3, ↓two_true, ↓two_false, mkv, aggAt, Nat.reduceLeDiff, Nat.reduceSub, Nat.reduceMul, implies_true, Nat.reduceEqDiff, reduceIte, Nat.reduceAdd, Nat.reduceBEq, reduceCtorEq, al26, bd26, bs24_1, ld26, st26, implNumOk_eq, q1.rd 0 rfl]
    refine st_lit [x] rfl rfl q1 fun H3 q3 => ?_
    simp -implicitDefEqProofs only [kz, kk0, kk1, kk2, kk3, ↓two_true, ↓two_false, mkv, aggAt, Nat.reduceLeDiff, Nat.reduceSub, Nat.reduceMul, implies_true, Nat.reduceEqDiff, reduceIte, Nat.reduceAdd, Nat.reduceBEq, reduceCtorEq, al26, bd26, bs24_1, ld26, st26, implNumOk_eq, q3.rd 1 rfl]
    refine st_set q3 1 rfl fun H4 q4 => ?_
    simp only [List.set_cons_zero, List.set_cons_succ] at q4
    simp -implicitDefEqProofs only [kz, kk0, kk1, kk2, kk3, ↓two_true, ↓two_false, mkv, aggAt, Nat.reduceLeDiff, Nat.reduceSub, Nat.reduceMul, implies_true, Nat.reduceEqDiff, reduceIte, Nat.reduceAdd, Nat.reduceBEq, reduceCtorEq, al26, bd26, bs24_1, ld26, st26, implNumOk_eq, q4.rd 1 rfl]
    -- end2
    exact ⟨_, rfl, q4.give [0] (by decide) _ rfl⟩

/-- Reckoned from the last to the first. -/
def redV (s : Int) : List Int → Int × Int
  | [] => (0, 0)
  | [x] => (x, 0)
  | x :: y :: l => if (redV s (y :: l)).2 = 0 then twoF s x (redV s (y :: l)).1 else (0, (redV s (y :: l)).2)
def sclR (R : Int × Int) : (List Int × List Int) × Int := if R.2 = 0 then (([], [R.1]), 0) else (([], []), R.2)
theorem arrOk_scl {x : Int} (h : numOk x = true) : arrOk [] [x] = true := by
  unfold arrOk; simp [h]; decide
theorem each2R_scl {s x y : Int} (hs : sg2 s = true) (hx : numOk x = true) (hy : numOk y = true) : each2R s [] [x] [] [y] = sclR (twoF s x y) := by
  have e1 := arrOk_scl hx
  have e2 := arrOk_scl hy
  have e3 : fitR [] [x] [] [y] = ([], 0) := by unfold fitR; rw [e1, e2]; rfl
  have e4 : (sizeI []).toNat = 1 := by decide
  unfold each2R sclR
  rw [e1, e2, hs, e3]
  simp only [Bool.and_self, if_true, e4]
  have e5 : each2C s [] [x] [] [y] 1 = (twoF s x y).2 := by
    simp [each2C, firstC, atV]
    intro h; exact h.symm
  have e6 : each2D s [] [x] [] [y] 1 = [(twoF s x y).1] := by simp [each2D, atV]
  rw [e5, e6]
theorem redV_num {s : Int} {l : List Int} (hl : l.all numOk = true) (h0 : l ≠ []) : numOk (redV s l).1 = true := by
  induction l with
  | nil => exact absurd rfl h0
  | cons x l ih =>
    cases l with
    | nil => simp only [List.all_cons, Bool.and_eq_true] at hl; exact hl.1
    | cons y l =>
      simp only [redV]
      split
      · exact twoF_num
      · exact (show numOk 0 = true by decide)
theorem redL_scl {s : Int} (hs : sg2 s = true) {l : List Int} (hl : l.all numOk = true) (h0 : l ≠ []) : redL s (l.map fun x => ([], [x])) = sclR (redV s l) := by
  induction l with
  | nil => exact absurd rfl h0
  | cons x l ih =>
    cases l with
    | nil => rfl
    | cons y l =>
      have hl2 := hl
      simp only [List.all_cons, Bool.and_eq_true] at hl
      have e := ih (by simp only [List.all_cons, Bool.and_eq_true]; exact hl.2) (by simp)
      have hn := redV_num (s := s) (l := y :: l) (by simp only [List.all_cons, Bool.and_eq_true]; exact hl.2) (by simp)
      simp only [List.map_cons, redL] at e ⊢
      rw [e]
      unfold redS
      simp only [redV]
      by_cases hz : (redV s (y :: l)).2 = 0
      · rw [if_pos hz]
        unfold sclR
        rw [if_pos hz, if_pos rfl]
        exact each2R_scl hs hl.1 hn
      · rw [if_neg hz]
        unfold sclR
        rw [if_neg hz]
        simp only [if_neg hz]
theorem rowsR_vec {da : List Int} {n : Nat} (h : da.length = n) : rowsR [(n : Int)] da = da.map fun x => ([], [x]) := by
  subst h
  have e : (sizeI []).toNat = 1 := by decide
  show (List.range ((da.length : Int)).toNat).map (fun i => ([], (da.drop (i * (sizeI []).toNat)).take (sizeI []).toNat)) = _
  rw [e, Int.toNat_natCast]
  refine List.ext_getElem (by simp) fun i h1 h2 => ?_
  have hi : i < da.length := by simpa using h2
  simp only [List.getElem_map, List.getElem_range, Nat.mul_one]
  rw [List.drop_eq_getElem_cons hi]
  rfl
theorem reduceR_vec {s : Int} {da : List Int} {n : Nat} (hs : sg2 s = true) (h : da.length = n) (ho : arrOk [(n : Int)] da = true) : reduceR s [(n : Int)] da = if n = 0 then (([], [(neuF s).1]), 0) else sclR (redV s da) := by
  have hd : da.all numOk = true := by unfold arrOk at ho; simp only [Bool.and_eq_true] at ho; exact ho.2
  unfold reduceR
  rw [ho, hs, rowsR_vec h]
  simp only [Bool.and_self, if_true, List.length_singleton, List.tail_cons]
  rw [if_neg (by decide)]
  unfold redR
  rw [List.length_map, h]
  split
  · rfl
  · rename_i h0
    exact redL_scl hs hd (by rintro rfl; simp at h; omega)

theorem ARes.ans {H H' : AH} {r : Value} {R : (List Int × List Int) × Int} (h : ARes H H' r R) : Ans1 H H' r R := by
  obtain ⟨⟨a, c, b, d, rfl, h1, h2, h3, h4, h5, h6⟩, he⟩ := h
  exact ⟨_, _, rfl, ((LD.nil (H := H)).nrow2 (H' := H') ⟨h2, h5⟩ ⟨h3, h6⟩ h4 he)⟩

theorem implOuterA_ok {H : AH} {s : Int} {pa qa pb qb : Value} {sa da sb db : List Int} (a : AR H pa qa sa da) (b : AR H pb qb sb db) : CallsA Try.prog 53 #[.int .i64 s, .agg #[pa, qa], .agg #[pb, qb]] H fun r H' => Ans1 H H' r (outR s sa da sb db) :=
  (implOuter_ok a.os a.od b.os b.od a.l1 a.l2 b.l1 b.l2).mono fun _ _ h => h.ans

theorem l1DrawSign_ok {H : AH} {cb : Nat} (hc : Cur H cb) : CallsA Try.prog 121 #[.pointer (some ⟨cb, 0, none⟩)] H fun r H' => (∃ x : Int, r = .int .i64 x) ∧ Frm cb H H' := by
  refine w121 ?_
  unfold k121
  simp -implicitDefEqProofs only [kz, kk0, kk1, kk2, kk3, ↓two_true, ↓two_false, oS_some, oM_some, mkv, aggAt, Nat.reduceLeDiff, Nat.reduceSub, Nat.reduceMul, implies_true, Nat.reduceEqDiff, reduceIte, Nat.reduceAdd, Nat.reduceBEq, reduceCtorEq, bs24_5, bs24_11]
  refine (l1Once_ok hc).mono ?_
  rintro _ H1 ⟨⟨b, rfl⟩, hf⟩
  have q := (LX.nilc hc).call hf
  simp -implicitDefEqProofs only [kz, kk0, kk1, kk2, kk3, ↓two_true, ↓two_false, mkv, aggAt, Nat.reduceLeDiff, Nat.reduceSub, Nat.reduceMul, implies_true, Nat.reduceEqDiff, reduceIte, Nat.reduceAdd, Nat.reduceBEq, reduceCtorEq, bs24_5, bs24_11]
  refine two_intro (fun h => ?_) (fun h => ?_)
  · refine st_lit [0, -1, 105, 300, 47] rfl rfl q fun H2 q => ?_
    simp -implicitDefEqProofs only [kz, kk0, kk1, kk2, kk3, ↓two_true, ↓two_false, mkv, aggAt, Nat.reduceLeDiff, Nat.reduceSub, Nat.reduceMul, implies_true, Nat.reduceEqDiff, reduceIte, Nat.reduceAdd, Nat.reduceBEq, reduceCtorEq, bs24_5, bs24_11]
    refine (l1PickInt_ok q.cur (q.own 0 rfl) (q.nc 0 rfl) (by decide)).mono ?_
    rintro _ H3 ⟨⟨x, rfl, -⟩, hf⟩
    simp -implicitDefEqProofs only [kz, kk0, kk1, kk2, kk3, ↓two_true, ↓two_false, mkv, aggAt, Nat.reduceLeDiff, Nat.reduceSub, Nat.reduceMul, implies_true, Nat.reduceEqDiff, reduceIte, Nat.reduceAdd, Nat.reduceBEq, reduceCtorEq, bs24_5, bs24_11]
    exact ⟨⟨x, rfl⟩, (q.call hf).frm⟩
  · refine st_lit [43, 45, 42, 37, 124, 38, 94, 61, 60, 62, 126] rfl rfl q fun H2 q => ?_
    simp -implicitDefEqProofs only [kz, kk0, kk1, kk2, kk3, ↓two_true, ↓two_false, mkv, aggAt, Nat.reduceLeDiff, Nat.reduceSub, Nat.reduceMul, implies_true, Nat.reduceEqDiff, reduceIte, Nat.reduceAdd, Nat.reduceBEq, reduceCtorEq, bs24_5, bs24_11]
    refine (l1PickInt_ok q.cur (q.own 0 rfl) (q.nc 0 rfl) (by decide)).mono ?_
    rintro _ H3 ⟨⟨x, rfl, -⟩, hf⟩
    simp -implicitDefEqProofs only [kz, kk0, kk1, kk2, kk3, ↓two_true, ↓two_false, mkv, aggAt, Nat.reduceLeDiff, Nat.reduceSub, Nat.reduceMul, implies_true, Nat.reduceEqDiff, reduceIte, Nat.reduceAdd, Nat.reduceBEq, reduceCtorEq, bs24_5, bs24_11]
    exact ⟨⟨x, rfl⟩, (q.call hf).frm⟩

def redN (s : Int) (l : List Int) : Int × Int := if l.length = 0 then ((neuF s).1, 0) else redV s l
theorem reduceR_redN {s : Int} {l : List Int} (hs : sg2 s = true) (hn : l.all numOk = true) (hl : l.length ≤ 300) : reduceR s [(l.length : Int)] l = sclR (redN s l) := by
  have ho : arrOk [(l.length : Int)] l = true := by
    unfold arrOk
    simp only [Bool.and_eq_true, beq_iff_eq]
    exact ⟨(sizeI_one hl).symm, hn⟩
  rw [reduceR_vec hs rfl ho]
  unfold redN
  split
  · rfl
  · rfl
def dotC (g : Int) (A B : Nat → Int) (m : Nat) : Int := firstC ((List.range m).map fun k => (twoF g (A k) (B k)).2)
def dotL (g : Int) (A B : Nat → Int) (m : Nat) : List Int := (List.range m).map fun k => (twoF g (A k) (B k)).1
def dotR (f g : Int) (A B : Nat → Int) (m : Nat) : Int × Int := if dotC g A B m = 0 then (if (redN f (dotL g A B m)).2 = 0 then ((redN f (dotL g A B m)).1, 0) else (0, (redN f (dotL g A B m)).2)) else (0, dotC g A B m)
theorem dotL_succ {g : Int} {A B : Nat → Int} {m : Nat} : dotL g A B (m + 1) = dotL g A B m ++ [(twoF g (A m) (B m)).1] := by
  unfold dotL; rw [List.range_succ, List.map_append, List.map_cons, List.map_nil]
theorem dotL_len {g : Int} {A B : Nat → Int} {m : Nat} : (dotL g A B m).length = m := by simp [dotL]
theorem dotL_num {g : Int} {A B : Nat → Int} {m : Nat} : (dotL g A B m).all numOk = true := by
  rw [List.all_eq_true]
  intro x hx
  obtain ⟨k, -, rfl⟩ := List.mem_map.1 hx
  exact twoF_num
theorem firstC_rng {f : Nat → Int} {n i : Nat} (hi : i < n) (hz : ∀ j, j < i → f j = 0) (hc : f i ≠ 0) : firstC ((List.range n).map f) = f i := by
  have h := firstC_at (l := List.range n) (f := f) (i := i) (by simpa using hi) (fun y hy => by
    obtain ⟨j, hj, rfl⟩ := List.mem_iff_getElem.1 hy
    have h2 : j < i := by simp at hj; omega
    simp only [List.getElem_take, List.getElem_range]
    exact hz j h2) (by rw [List.getElem_range]; exact hc)
  rw [List.getElem_range] at h
  exact h
theorem firstC_rng0 {f : Nat → Int} {n : Nat} (hz : ∀ j, j < n → f j = 0) : firstC ((List.range n).map f) = 0 := firstC_no fun y hy => hz y (List.mem_range.1 hy)
theorem sclR_ok {R : Int × Int} {S : (List Int × List Int) × Int} (h : sclR R = S) : (S.2 = 0 → R.2 = 0 ∧ S.1.2 = [R.1]) ∧ (S.2 ≠ 0 → R.2 ≠ 0 ∧ S.2 = R.2) := by
  subst h
  unfold sclR
  split
  · rename_i h; exact ⟨fun _ => ⟨h, rfl⟩, fun h2 => absurd rfl h2⟩
  · rename_i h; exact ⟨fun h2 => absurd h2 h, fun _ => ⟨h, rfl⟩⟩
theorem sclR_lim {R : Int × Int} : (sclR R).1.1.length ≤ 300 ∧ (sclR R).1.2.length ≤ 300 := by
  unfold sclR; split <;> simp

theorem implDot_ok {H : AH} {f g : Int} {va vb : Value} {la lb : List Int} {m sp : Nat} (ha : IntRow H va la) (hb : IntRow H vb lb) (hsf : sg2 f = true) (h1 : m ≤ la.length) (h2 : ∀ k, k < m → k * sp < lb.length) (h3 : la.length ≤ 300) (h4 : lb.length ≤ 300) : CallsA Try.prog 138 #[.int .i64 f, .int .i64 g, va, vb, .int .i64 m, .int .i64 sp] H fun r H' => r = .tuple #[.int .i64 (dotR f g (fun k => la.getD k 0) (fun k => lb.getD (k * sp) 0) m).1, .int .i64 (dotR f g (fun k => la.getD k 0) (fun k => lb.getD (k * sp) 0) m).2] ∧ ∃ K, H' = H ++ K := by
  obtain ⟨xa, xc, rfl, -⟩ := ha.op
  obtain ⟨ya, yc, rfl, -⟩ := hb.op
  have q := (LX.nil (H := H))
  refine w138 ?_
  unfold k138
  simp -implicitDefEqProofs only [kz, kk0, kk1, kk2, kk3, ↓two_true, ↓two_false, mkv, aggAt, Nat.reduceLeDiff, Nat.reduceSub, Nat.reduceMul, implies_true, Nat.reduceEqDiff, reduceIte, Nat.reduceAdd, Nat.reduceBEq, reduceCtorEq, al26, ap24_24, bs24_1, fa26_1, ix24, ld3, ld24, st26, implTwo_eq]
  have q1 := q.nil0
  refine rW_loopQ (σ := Nat × Value) q1 [0, 1, 2, 3, 4, 5] (fun x tm => tm 15 = .int .i64 x.1 ∧ tm 14 = x.2 ∧ x.1 ≤ m ∧ ∀ j, j < x.1 → (twoF g (la.getD j 0) (lb.getD (j * sp) 0)).2 = 0) (fun x L => L.set 0 (.own (.row x.2 (dotL g (fun k => la.getD k 0) (fun k => lb.getD (k * sp) 0) x.1)))) (fun x => m - x.1) (0, .slice none 0 0) ⟨rfl, rfl, Nat.zero_le _, fun j hj => by omega⟩ rfl ?_
  rintro ⟨k, ov⟩ tm1 H1 ⟨lv1, lv2, lv3, lv4, lv5, lv6, -⟩ ⟨kk, ko, hk, hz⟩ q2
  simp -implicitDefEqProofs only [kz, kk0, kk1, kk2, kk3, ↓two_true, ↓two_false, mkv, aggAt, Nat.reduceLeDiff, Nat.reduceSub, Nat.reduceMul, implies_true, Nat.reduceEqDiff, reduceIte, Nat.reduceAdd, Nat.reduceBEq, reduceCtorEq, al26, ap24_24, bs24_1, fa26_1, ix24, ld3, ld24, st26] at lv1 lv2 lv3 lv4 lv5 lv6
  simp only [List.set_cons_zero, List.set_cons_succ] at q2
  simp only at kk ko hk hz
  simp -implicitDefEqProofs only [kz, kk0, kk1, kk2, kk3, ↓two_true, ↓two_false, mkv, aggAt, Nat.reduceLeDiff, Nat.reduceSub, Nat.reduceMul, implies_true, Nat.reduceEqDiff, reduceIte, Nat.reduceAdd, Nat.reduceBEq, reduceCtorEq, al26, ap24_24, bs24_1, fa26_1, ix24, ld3, ld24, st26, implTwo_eq, lv1, lv2, lv3, lv4, lv5, lv6, kk, ko]
  refine two_intro (fun u1 => ?_) (fun u1 => ?_)
  ·
    have hc : k < m := by simpa using u1
    have hka : k < la.length := by omega
    have hkb := h2 k hc
    have wk : IntKind.i64.wrap ((k : Int) + 1) = ((k + 1 : Nat) : Int) := IntWalk.i64_in ((k : Int) + 1) (by omega)
    have wm : IntKind.i64.wrap ((k : Int) * (sp : Int)) = ((k * sp : Nat) : Int) := by rw [← Int.natCast_mul]; exact IntWalk.i64_in _ (by omega)
    have eA : la.getD k 0 = la[k] := getD_lt hka
    have eB : lb.getD (k * sp) 0 = lb[k * sp] := getD_lt hkb
    obtain ⟨a1, c1, rfl⟩ := (q2.own 0 rfl).isSlice
    obtain ⟨b1, o1, cs1, ei1, fr1, fc1⟩ := ixI (ha.ext q2.ext) (i := k) hka
    obtain ⟨b2, o2, cs2, ei2, fr2, fc2⟩ := ixI (hb.ext q2.ext) (i := k * sp) hkb
    try simp -implicitDefEqProofs only [kz, kk0, kk1, kk2, kk3, ↓two_true, ↓two_false, mkv, aggAt, Nat.reduceLeDiff, Nat.reduceSub, Nat.reduceMul, implies_true, Nat.reduceEqDiff, reduceIte, Nat.reduceAdd, Nat.reduceBEq, reduceCtorEq, al26, ap24_24, bs24_1, fa26_1, ix24, ld3, ld24, st26, implTwo_eq, wk, wm, ei1, fr1, fc1, ei2, fr2, fc2, lv1, lv2, lv3, lv4, lv5, lv6, kk, ko]
    try simp -implicitDefEqProofs only [kz, kk0, kk1, kk2, kk3, ↓two_true, ↓two_false, mkv, aggAt, Nat.reduceLeDiff, Nat.reduceSub, Nat.reduceMul, implies_true, Nat.reduceEqDiff, reduceIte, Nat.reduceAdd, Nat.reduceBEq, reduceCtorEq, al26, ap24_24, bs24_1, fa26_1, ix24, ld3, ld24, st26, implTwo_eq, wk, wm, ei1, fr1, fc1, ei2, fr2, fc2, lv1, lv2, lv3, lv4, lv5, lv6, kk, ko]
    refine two_intro (fun u2 => ?_) (fun u2 => ?_)
    ·
      have hne : (twoF g la[k] lb[k * sp]).2 ≠ 0 := by simpa using u2
      have hCk : dotC g (fun k => la.getD k 0) (fun k => lb.getD (k * sp) 0) m = (twoF g la[k] lb[k * sp]).2 := by
        have := firstC_rng (f := fun k => (twoF g (la.getD k 0) (lb.getD (k * sp) 0)).2) hc hz (by simp only [eA, eB]; exact hne)
        simp only [eA, eB] at this
        exact this
      try simp -implicitDefEqProofs only [kz, kk0, kk1, kk2, kk3, ↓two_true, ↓two_false, mkv, aggAt, Nat.reduceLeDiff, Nat.reduceSub, Nat.reduceMul, implies_true, Nat.reduceEqDiff, reduceIte, Nat.reduceAdd, Nat.reduceBEq, reduceCtorEq, al26, ap24_24, bs24_1, fa26_1, ix24, ld3, ld24, st26, implTwo_eq, wk, wm, ei1, fr1, fc1, ei2, fr2, fc2, lv1, lv2, lv3, lv4, lv5, lv6, kk, ko]
      -- end1
      exact ⟨by rw [show dotR f g (fun k => la.getD k 0) (fun k => lb.getD (k * sp) 0) m = (0, (twoF g la[k] lb[k * sp]).2) by unfold dotR; rw [hCk, if_neg hne]], q2.ext⟩
    ·
      have hz1 : (twoF g la[k] lb[k * sp]).2 = 0 := by simpa using u2
      try simp -implicitDefEqProofs only [kz, kk0, kk1, kk2, kk3, ↓two_true, ↓two_false, mkv, aggAt, Nat.reduceLeDiff, Nat.reduceSub, Nat.reduceMul, implies_true, Nat.reduceEqDiff, reduceIte, Nat.reduceAdd, Nat.reduceBEq, reduceCtorEq, al26, ap24_24, bs24_1, fa26_1, ix24, ld3, ld24, st26, implTwo_eq, wk, wm, ei1, fr1, fc1, ei2, fr2, fc2, lv1, lv2, lv3, lv4, lv5, lv6, kk, ko]
      refine st_lit [_] rfl rfl q2 fun H2 q3 => ?_
      simp -implicitDefEqProofs only [kz, kk0, kk1, kk2, kk3, ↓two_true, ↓two_false, mkv, aggAt, Nat.reduceLeDiff, Nat.reduceSub, Nat.reduceMul, implies_true, Nat.reduceEqDiff, reduceIte, Nat.reduceAdd, Nat.reduceBEq, reduceCtorEq, al26, ap24_24, bs24_1, fa26_1, ix24, ld3, ld24, st26, implTwo_eq, wk, wm, lv1, lv2, lv3, lv4, lv5, lv6, kk, ko]
      refine st_app q3 1 rfl (q3.int 0 rfl) (by rw [dotL_len]; simp; omega) fun a2 c2 H3 q4 => ?_
      simp only [List.set_cons_zero, List.set_cons_succ, List.length_nil, List.length_cons, Nat.zero_add, List.nil_append] at q4 ⊢
      simp -implicitDefEqProofs only [kz, kk0, kk1, kk2, kk3, ↓two_true, ↓two_false, mkv, aggAt, Nat.reduceLeDiff, Nat.reduceSub, Nat.reduceMul, implies_true, Nat.reduceEqDiff, reduceIte, Nat.reduceAdd, Nat.reduceBEq, reduceCtorEq, al26, ap24_24, bs24_1, fa26_1, ix24, ld3, ld24, st26, implTwo_eq, wk, wm, lv1, lv2, lv3, lv4, lv5, lv6, kk, ko]
      -- back loop1
      refine ⟨(k + 1, _), (by simp only; omega), ⟨rfl, rfl, rfl, rfl, rfl, rfl, trivial⟩, ⟨by first | rfl | simp, rfl, hc, fun j hj => by
        rcases Nat.lt_or_ge j k with h | h
        · exact hz j h
        · have e : j = k := (by omega)
          subst e; rw [eA, eB]; exact hz1⟩, ?_⟩
      simp only [List.set_cons_zero, List.set_cons_succ, dotL_succ, eA, eB]
      exact q4.pick [1] _ rfl (by decide)
  ·
    have hil : k = m := Nat.le_antisymm hk (Nat.not_lt.1 (by simpa using u1))
    rw [hil] at hz q2
    have hC0 : dotC g (fun k => la.getD k 0) (fun k => lb.getD (k * sp) 0) m = 0 := firstC_rng0 hz
    obtain ⟨a3, c3, rfl⟩ := (q2.own 0 rfl).isSlice
    try simp -implicitDefEqProofs only [kz, kk0, kk1, kk2, kk3, ↓two_true, ↓two_false, mkv, aggAt, Nat.reduceLeDiff, Nat.reduceSub, Nat.reduceMul, implies_true, Nat.reduceEqDiff, reduceIte, Nat.reduceAdd, Nat.reduceBEq, reduceCtorEq, al26, ap24_24, bs24_1, fa26_1, ix24, ld3, ld24, st26, implTwo_eq, lv1, lv2, lv3, lv4, lv5, lv6, kk, ko]
    refine (vector_ok (q2.int 0 rfl) (by rw [dotL_len]; omega) ).mono ?_
    rintro _ H4 ⟨p1, p2, rfl, g1⟩
    have q5 := q2.join g1
    simp only [List.map_cons, List.map_nil, List.cons_append, List.nil_append] at q5
    obtain ⟨a4, c4, rfl⟩ := (q5.own 0 rfl).isSlice
    obtain ⟨a5, c5, rfl⟩ := (q5.own 1 rfl).isSlice
    simp -implicitDefEqProofs only [kz, kk0, kk1, kk2, kk3, ↓two_true, ↓two_false, mkv, aggAt, Nat.reduceLeDiff, Nat.reduceSub, Nat.reduceMul, implies_true, Nat.reduceEqDiff, reduceIte, Nat.reduceAdd, Nat.reduceBEq, reduceCtorEq, al26, ap24_24, bs24_1, fa26_1, ix24, ld3, ld24, st26, implTwo_eq, lv1, lv2, lv3, lv4, lv5, lv6, kk, ko]
    refine (implReduce_ok (s := f) (q5.ar 0 1 rfl rfl (by simp) (by rw [dotL_len]; omega)) (fun _ => (show 0 ≤ sizeI [] by decide)) ).mono ?_
    rintro _ H5 ⟨p3, p4, rfl, g2⟩
    obtain ⟨R1, hR1⟩ : ∃ R, reduceR f [((dotL g (fun k => la.getD k 0) (fun k => lb.getD (k * sp) 0) m).length : Int)] (dotL g (fun k => la.getD k 0) (fun k => lb.getD (k * sp) 0) m) = R := ⟨_, rfl⟩
    rw [hR1] at g2 ⊢
    have q6 := q5.join g2
    simp only [List.map_cons, List.map_nil, List.cons_append, List.nil_append] at q6
    obtain ⟨a6, c6, rfl⟩ := (q6.own 0 rfl).isSlice
    obtain ⟨a7, c7, rfl⟩ := (q6.own 1 rfl).isSlice
    rw [reduceR_redN hsf dotL_num (by rw [dotL_len]; omega)] at hR1
    have hS0 := sclR_ok hR1
    have hRl : R1.1.1.length ≤ 300 ∧ R1.1.2.length ≤ 300 := by rw [← hR1]; exact sclR_lim
    simp -implicitDefEqProofs only [kz, kk0, kk1, kk2, kk3, ↓two_true, ↓two_false, mkv, aggAt, Nat.reduceLeDiff, Nat.reduceSub, Nat.reduceMul, implies_true, Nat.reduceEqDiff, reduceIte, Nat.reduceAdd, Nat.reduceBEq, reduceCtorEq, al26, ap24_24, bs24_1, fa26_1, ix24, ld3, ld24, st26, implTwo_eq, lv1, lv2, lv3, lv4, lv5, lv6, kk, ko]
    refine st_box q6 fun H6 q7 => ?_
    simp -implicitDefEqProofs only [kz, kk0, kk1, kk2, kk3, ↓two_true, ↓two_false, mkv, aggAt, Nat.reduceLeDiff, Nat.reduceSub, Nat.reduceMul, implies_true, Nat.reduceEqDiff, reduceIte, Nat.reduceAdd, Nat.reduceBEq, reduceCtorEq, al26, ap24_24, bs24_1, fa26_1, ix24, ld3, ld24, st26, implTwo_eq, lv1, lv2, lv3, lv4, lv5, lv6, kk, ko, q7.rd 0 rfl]
    refine st_set q7 0 rfl fun H7 q8 => ?_
    simp only [List.set_cons_zero, List.set_cons_succ] at q8
    simp -implicitDefEqProofs only [kz, kk0, kk1, kk2, kk3, ↓two_true, ↓two_false, mkv, aggAt, Nat.reduceLeDiff, Nat.reduceSub, Nat.reduceMul, implies_true, Nat.reduceEqDiff, reduceIte, Nat.reduceAdd, Nat.reduceBEq, reduceCtorEq, al26, ap24_24, bs24_1, fa26_1, ix24, ld3, ld24, st26, implTwo_eq, lv1, lv2, lv3, lv4, lv5, lv6, kk, ko, q8.rd 0 rfl]
    refine two_intro (fun u3 => ?_) (fun u3 => ?_)
    ·
      have hS := hS0.2 (by simpa using u3)
      try simp -implicitDefEqProofs only [kz, kk0, kk1, kk2, kk3, ↓two_true, ↓two_false, mkv, aggAt, Nat.reduceLeDiff, Nat.reduceSub, Nat.reduceMul, implies_true, Nat.reduceEqDiff, reduceIte, Nat.reduceAdd, Nat.reduceBEq, reduceCtorEq, al26, ap24_24, bs24_1, fa26_1, ix24, ld3, ld24, st26, implTwo_eq, lv1, lv2, lv3, lv4, lv5, lv6, kk, ko, q8.rd 0 rfl]
      -- end2
      exact ⟨by rw [show dotR f g (fun k => la.getD k 0) (fun k => lb.getD (k * sp) 0) m = (0, R1.2) by unfold dotR; rw [hC0, if_pos rfl, if_neg hS.1, hS.2]], q8.ext⟩
    ·
      have hS := hS0.1 (by simpa using u3)
      obtain ⟨b3, o3, cs3, ei3, fr3, fc3⟩ := ixI0 (q8.int 2 rfl) (List.getElem?_eq_getElem (by rw [hS.2]; simp))
      try simp -implicitDefEqProofs only [kz, kk0, kk1, kk2, kk3, ↓two_true, ↓two_false, mkv, aggAt, Nat.reduceLeDiff, Nat.reduceSub, Nat.reduceMul, implies_true, Nat.reduceEqDiff, reduceIte, Nat.reduceAdd, Nat.reduceBEq, reduceCtorEq, al26, ap24_24, bs24_1, fa26_1, ix24, ld3, ld24, st26, implTwo_eq, ei3, fr3, fc3, lv1, lv2, lv3, lv4, lv5, lv6, kk, ko, q8.rd 0 rfl]
      -- end3
      exact ⟨by rw [show dotR f g (fun k => la.getD k 0) (fun k => lb.getD (k * sp) 0) m = ((R1.1.2)[0]'(by rw [hS.2]; simp), 0) by unfold dotR; rw [hC0, if_pos rfl, if_pos hS.1]; simp [hS.2]], q8.ext⟩

theorem dotR_congr {f g : Int} {A B A' B' : Nat → Int} {m : Nat} (hA : ∀ k, k < m → A k = A' k) (hB : ∀ k, k < m → B k = B' k) : dotR f g A B m = dotR f g A' B' m := by
  have e1 : dotC g A B m = dotC g A' B' m := by
    unfold dotC; congr 1
    exact List.map_congr_left fun k hk => by rw [hA k (List.mem_range.1 hk), hB k (List.mem_range.1 hk)]
  have e2 : dotL g A B m = dotL g A' B' m := by
    unfold dotL
    exact List.map_congr_left fun k hk => by rw [hA k (List.mem_range.1 hk), hB k (List.mem_range.1 hk)]
  unfold dotR
  rw [e1, e2]

def innS (sa sb : List Int) : List Int := sa.take (sa.length - 1) ++ sb.tail
def innN (f g : Int) (sb da db : List Int) (j : Nat) : Int × Int :=
  dotR f g (fun k => da.getD (j / (sizeI sb.tail).toNat * (sb.headD 0).toNat + k) 0) (fun k => db.getD (k * (sizeI sb.tail).toNat + j % (sizeI sb.tail).toNat) 0) (sb.headD 0).toNat
def innD (f g : Int) (sb da db : List Int) (n : Nat) : List Int := (List.range n).map fun j => (innN f g sb da db j).1
def innC (f g : Int) (sb da db : List Int) (n : Nat) : Int := firstC ((List.range n).map fun j => (innN f g sb da db j).2)
def innR (f g : Int) (sa da sb db : List Int) : (List Int × List Int) × Int :=
  if (arrOk sa da && arrOk sb db && sg2 f && sg2 g) = true then
    (if ¬ (1 ≤ sa.length ∧ sa.length ≤ 2 ∧ 1 ≤ sb.length ∧ sb.length ≤ 2) then (([], []), 4) else if sa.getD (sa.length - 1) 0 ≠ sb.headD 0 then (([], []), 3)
     else if sizeI (innS sa sb) < 0 then (([], []), 6) else if innC f g sb da db (sizeI (innS sa sb)).toNat = 0 then ((innS sa sb, innD f g sb da db (sizeI (innS sa sb)).toNat), 0) else (([], []), innC f g sb da db (sizeI (innS sa sb)).toNat))
  else (([], []), 1)
theorem innD_succ {f g : Int} {sb da db : List Int} {n : Nat} : innD f g sb da db (n + 1) = innD f g sb da db n ++ [(innN f g sb da db n).1] := by
  unfold innD; rw [List.range_succ, List.map_append, List.map_cons, List.map_nil]
theorem innD_len {f g : Int} {sb da db : List Int} {n : Nat} : (innD f g sb da db n).length = n := by simp [innD]
theorem arrOk_prod {sa da : List Int} (h : arrOk sa da = true) : sa.length ≤ 3 ∧ (∀ x ∈ sa, ∃ n : Nat, x = n ∧ n ≤ 300) ∧ prodI sa = da.length ∧ da.length ≤ 300 := by
  have h1 := (arrOk_size h)
  obtain ⟨e1, e2, e3⟩ := sizeI_ok (l := sa) (by omega)
  refine ⟨e1, fun x hx => ?_, by omega, h1.2⟩
  have := inB_true.1 (List.all_eq_true.1 e2 x hx)
  exact ⟨x.toNat, by omega, by omega⟩
theorem inn_a {sa da : List Int} (h : arrOk sa da = true) (h1 : 1 ≤ sa.length) (h2 : sa.length ≤ 2) : ∃ m p : Nat, sa.getD (sa.length - 1) 0 = m ∧ sizeI (sa.take (sa.length - 1)) = p ∧ p * m = da.length ∧ m ≤ 300 ∧ p ≤ 300 ∧ (sa = [(m : Int)] ∧ p = 1 ∨ sa = [(p : Int), (m : Int)]) := by
  obtain ⟨_, k2, k3, _⟩ := arrOk_prod h
  match sa, h1, h2 with
  | [x], _, _ =>
    obtain ⟨n, rfl, hn⟩ := k2 x (by simp)
    refine ⟨n, 1, rfl, rfl, ?_, hn, by decide, .inl ⟨rfl, rfl⟩⟩
    simp [prodI] at k3; omega
  | [y, x], _, _ =>
    obtain ⟨n, rfl, hn⟩ := k2 x (by simp)
    obtain ⟨p, rfl, hp⟩ := k2 y (by simp)
    refine ⟨n, p, rfl, sizeI_one hp, ?_, hn, hp, .inr rfl⟩
    have k4 : (p : Int) * (n : Int) = da.length := by simpa [prodI] using k3
    rw [← Int.natCast_mul] at k4
    omega
theorem inn_b {sb db : List Int} (h : arrOk sb db = true) (h1 : 1 ≤ sb.length) (h2 : sb.length ≤ 2) : ∃ n r : Nat, sb.headD 0 = n ∧ sizeI sb.tail = r ∧ n * r = db.length ∧ n ≤ 300 ∧ r ≤ 300 ∧ (sb = [(n : Int)] ∧ r = 1 ∨ sb = [(n : Int), (r : Int)]) := by
  obtain ⟨_, k2, k3, _⟩ := arrOk_prod h
  match sb, h1, h2 with
  | [x], _, _ =>
    obtain ⟨n, rfl, hn⟩ := k2 x (by simp)
    refine ⟨n, 1, rfl, rfl, ?_, hn, by decide, .inl ⟨rfl, rfl⟩⟩
    simp [prodI] at k3; omega
  | [y, x], _, _ =>
    obtain ⟨n, rfl, hn⟩ := k2 x (by simp)
    obtain ⟨p, rfl, hp⟩ := k2 y (by simp)
    refine ⟨p, n, rfl, sizeI_one hn, ?_, hp, hn, .inr rfl⟩
    have k4 : (p : Int) * (n : Int) = db.length := by simpa [prodI] using k3
    rw [← Int.natCast_mul] at k4
    omega
theorem inn_s {sa sb : List Int} {m p n r : Nat} (ha : sa = [(m : Int)] ∧ p = 1 ∨ sa = [(p : Int), (m : Int)]) (hb : sb = [(n : Int)] ∧ r = 1 ∨ sb = [(n : Int), (r : Int)]) (h : 0 ≤ sizeI (innS sa sb)) : (sizeI (innS sa sb)).toNat = p * r ∧ p * r ≤ 300 := by
  obtain ⟨e1, e2, e3⟩ := sizeI_ok (l := innS sa sb) h
  have k : prodI (innS sa sb) = (p : Int) * (r : Int) := by
    rcases ha with ⟨rfl, rfl⟩ | rfl <;> rcases hb with ⟨rfl, rfl⟩ | rfl <;> simp [innS, prodI]
  have hle := sizeI_le (l := innS sa sb)
  rw [← Int.natCast_mul] at k
  omega
theorem getD_drop {l : List Int} {x k : Nat} : (l.drop x).getD k 0 = l.getD (x + k) 0 := by
  rw [List.getD_eq_getElem?_getD, List.getD_eq_getElem?_getD, List.getElem?_drop]
theorem cell_div {i k r : Nat} (h : k < r) : (i * r + k) / r = i ∧ (i * r + k) % r = k := by
  constructor
  · rw [Nat.mul_comm, Nat.mul_add_div (by omega), Nat.div_eq_of_lt h, Nat.add_zero]
  · rw [Nat.mul_comm, Nat.mul_add_mod, Nat.mod_eq_of_lt h]
theorem inn_lt {i k m p : Nat} (h1 : i < p) (h2 : k < m) : i * m + k < p * m := by
  have := Nat.mul_le_mul_right m (show i + 1 ≤ p from h1)
  rw [Nat.add_mul, Nat.one_mul] at this
  omega
theorem inn_cell {f g : Int} {sb da db : List Int} {i k m r x : Nat} (hm : sb.headD 0 = m) (hr : sizeI sb.tail = r) (h : k < r) (hx : 0 < m → x = k) : dotR f g (fun j => (da.drop (i * m)).getD j 0) (fun j => (db.drop x).getD (j * r) 0) m = innN f g sb da db (i * r + k) := by
  unfold innN
  simp only [hm, hr, Int.toNat_natCast]
  rw [(cell_div h).1, (cell_div h).2]
  refine dotR_congr (fun j hj => getD_drop) fun j hj => ?_
  rw [getD_drop, hx (by omega), Nat.add_comm]

theorem LX.concat2 {H0 H : AH} {b : Nat} {p q : Value} {l m S : List Int} {L : List Ix} (h : LX none H0 H L) (i : Nat) (hi : L[i]? = some (.own (.box b [p, q]))) (hp : IntRow H p l) (hq : IntRow H q m) (hl : l.length + m.length ≤ 1048576) (hS : l ++ m = S) :
    CallsA Try.prog 90 #[.slice (some ⟨b, 0, none⟩) 2 1] H fun r H' => ∃ a c, r = .slice a S.length c ∧ LX none H0 H' (.own (.row (.slice a S.length c) S) :: L) := by
  have hb : H[b]? = some ⟨[p, q], .own⟩ := by obtain ⟨B, h⟩ := h; exact h.ok i _ hi
  have kA : KOk H .r p := ⟨hp.ok, by rw [hp.row]; omega⟩
  have kB : KOk H .r q := ⟨hq.ok, by rw [hq.row]; omega⟩
  have hcv : cvs H [p, q] = [.r l, .r m] := by
    simp only [cvs, List.map_cons, List.map_nil, cv_row hp.ok, cv_row hq.ok, hp.row, hq.row]
  refine (concatI_ok (fRow2 hb kA kB) (by decide) (by rw [hcv]; simp [rsum, rsum1]; omega)).mono ?_
  rw [hcv, show flatR [CV.r l, CV.r m] = S by rw [← hS]; simp [flatR]]
  rintro _ H1 ⟨⟨xa, xc, rfl, ho, hf⟩, hK⟩
  exact ⟨xa, xc, rfl, h.nrow ⟨ho, hf⟩ hK⟩

theorem implInner_ok {H : AH} {f g : Int} {pa qa pb qb : Value} {sa da sb db : List Int} (a : AR H pa qa sa da) (b : AR H pb qb sb db) : CallsA Try.prog 66 #[.int .i64 f, .int .i64 g, .agg #[pa, qa], .agg #[pb, qb]] H fun r H' => Ans1 H H' r (innR f g sa da sb db) := by
  have al := a.l1
  have bl := a.l2
  have al2 := b.l1
  have bl2 := b.l2
  obtain ⟨za, zc, zb, zd, rfl, rfl⟩ := a.o1
  obtain ⟨ya, yc, yb, yd, rfl, rfl⟩ := b.o1
  have q := (LX.nil (H := H))
  refine w66 ?_
  unfold k66
  simp -implicitDefEqProofs only [kz, kk0, kk1, kk2, kk3, ↓two_true, ↓two_false, mkv, aggAt, Nat.reduceLeDiff, Nat.reduceSub, Nat.reduceMul, implies_true, Nat.reduceEqDiff, reduceIte, Nat.reduceAdd, Nat.reduceBEq, reduceCtorEq, al26, ap24_24, bd26, bs24_1, bs145_2, fa26_0, fa26_1, ix24, ld3, ld24, ld26, ln24, sn24, sl24, st24, st26, within_eq, twoSign_eq]
  refine st_box q fun H1 q1 => ?_
  simp -implicitDefEqProofs only [kz, kk0, kk1, kk2, kk3, ↓two_true, ↓two_false, mkv, aggAt, Nat.reduceLeDiff, Nat.reduceSub, Nat.reduceMul, implies_true, Nat.reduceEqDiff, reduceIte, Nat.reduceAdd, Nat.reduceBEq, reduceCtorEq, al26, ap24_24, bd26, bs24_1, bs145_2, fa26_0, fa26_1, ix24, ld3, ld24, ld26, ln24, sn24, sl24, st24, st26, within_eq, twoSign_eq, q1.rd 0 rfl]
  refine st_box q1 fun H2 q2 => ?_
  simp -implicitDefEqProofs only [kz, kk0, kk1, kk2, kk3, ↓two_true, ↓two_false, mkv, aggAt, Nat.reduceLeDiff, Nat.reduceSub, Nat.reduceMul, implies_true, Nat.reduceEqDiff, reduceIte, Nat.reduceAdd, Nat.reduceBEq, reduceCtorEq, al26, ap24_24, bd26, bs24_1, bs145_2, fa26_0, fa26_1, ix24, ld3, ld24, ld26, ln24, sn24, sl24, st24, st26, within_eq, twoSign_eq, q2.rd 0 rfl, q2.rd 1 rfl]
  refine st_box q2 fun H3 q3 => ?_
  simp -implicitDefEqProofs only [kz, kk0, kk1, kk2, kk3, ↓two_true, ↓two_false, mkv, aggAt, Nat.reduceLeDiff, Nat.reduceSub, Nat.reduceMul, implies_true, Nat.reduceEqDiff, reduceIte, Nat.reduceAdd, Nat.reduceBEq, reduceCtorEq, al26, ap24_24, bd26, bs24_1, bs145_2, fa26_0, fa26_1, ix24, ld3, ld24, ld26, ln24, sn24, sl24, st24, st26, within_eq, twoSign_eq, q3.rd 0 rfl, q3.rd 1 rfl, q3.rd 2 rfl]
  refine (implOk_ar (a.ext q3.ext)).mono ?_
  rintro _ H4 ⟨rfl, he1⟩
  have q4 := q3.extd he1
  simp -implicitDefEqProofs only [kz, kk0, kk1, kk2, kk3, ↓two_true, ↓two_false, mkv, aggAt, Nat.reduceLeDiff, Nat.reduceSub, Nat.reduceMul, implies_true, Nat.reduceEqDiff, reduceIte, Nat.reduceAdd, Nat.reduceBEq, reduceCtorEq, al26, ap24_24, bd26, bs24_1, bs145_2, fa26_0, fa26_1, ix24, ld3, ld24, ld26, ln24, sn24, sl24, st24, st26, within_eq, twoSign_eq, q4.rd 0 rfl, q4.rd 1 rfl, q4.rd 2 rfl]
  refine two_intro (fun u1 => ?_) (fun u1 => ?_)
  ·
    have w1 : arrOk sa da = false := by simpa using u1
    try simp -implicitDefEqProofs only [kz, kk0, kk1, kk2, kk3, ↓two_true, ↓two_false, mkv, aggAt, Nat.reduceLeDiff, Nat.reduceSub, Nat.reduceMul, implies_true, Nat.reduceEqDiff, reduceIte, Nat.reduceAdd, Nat.reduceBEq, reduceCtorEq, al26, ap24_24, bd26, bs24_1, bs145_2, fa26_0, fa26_1, ix24, ld3, ld24, ld26, ln24, sn24, sl24, st24, st26, within_eq, twoSign_eq, q4.rd 0 rfl, q4.rd 1 rfl, q4.rd 2 rfl]
    refine st_set q4 0 rfl fun H5 q5 => ?_
    simp only [List.set_cons_zero, List.set_cons_succ] at q5
    simp -implicitDefEqProofs only [kz, kk0, kk1, kk2, kk3, ↓two_true, ↓two_false, mkv, aggAt, Nat.reduceLeDiff, Nat.reduceSub, Nat.reduceMul, implies_true, Nat.reduceEqDiff, reduceIte, Nat.reduceAdd, Nat.reduceBEq, reduceCtorEq, al26, ap24_24, bd26, bs24_1, bs145_2, fa26_0, fa26_1, ix24, ld3, ld24, ld26, ln24, sn24, sl24, st24, st26, within_eq, twoSign_eq, q5.rd 0 rfl, q5.rd 1 rfl, q5.rd 2 rfl]
    -- end1
    exact q5.err (by unfold innR; rw [show (arrOk sa da && arrOk sb db && sg2 f && sg2 g) = false by simp [w1]]; rfl)
  ·
    have v1 : arrOk sa da = true := by simpa using u1
    try simp -implicitDefEqProofs only [kz, kk0, kk1, kk2, kk3, ↓two_true, ↓two_false, mkv, aggAt, Nat.reduceLeDiff, Nat.reduceSub, Nat.reduceMul, implies_true, Nat.reduceEqDiff, reduceIte, Nat.reduceAdd, Nat.reduceBEq, reduceCtorEq, al26, ap24_24, bd26, bs24_1, bs145_2, fa26_0, fa26_1, ix24, ld3, ld24, ld26, ln24, sn24, sl24, st24, st26, within_eq, twoSign_eq, q4.rd 0 rfl, q4.rd 1 rfl, q4.rd 2 rfl]
    refine (implOk_ar (b.ext q4.ext)).mono ?_
    rintro _ H6 ⟨rfl, he2⟩
    have q6 := q4.extd he2
    simp -implicitDefEqProofs only [kz, kk0, kk1, kk2, kk3, ↓two_true, ↓two_false, mkv, aggAt, Nat.reduceLeDiff, Nat.reduceSub, Nat.reduceMul, implies_true, Nat.reduceEqDiff, reduceIte, Nat.reduceAdd, Nat.reduceBEq, reduceCtorEq, al26, ap24_24, bd26, bs24_1, bs145_2, fa26_0, fa26_1, ix24, ld3, ld24, ld26, ln24, sn24, sl24, st24, st26, within_eq, twoSign_eq, q6.rd 0 rfl, q6.rd 1 rfl, q6.rd 2 rfl]
    refine two_intro (fun u2 => ?_) (fun u2 => ?_)
    ·
      have w1 : arrOk sb db = false := by simpa using u2
      try simp -implicitDefEqProofs only [kz, kk0, kk1, kk2, kk3, ↓two_true, ↓two_false, mkv, aggAt, Nat.reduceLeDiff, Nat.reduceSub, Nat.reduceMul, implies_true, Nat.reduceEqDiff, reduceIte, Nat.reduceAdd, Nat.reduceBEq, reduceCtorEq, al26, ap24_24, bd26, bs24_1, bs145_2, fa26_0, fa26_1, ix24, ld3, ld24, ld26, ln24, sn24, sl24, st24, st26, within_eq, twoSign_eq, q6.rd 0 rfl, q6.rd 1 rfl, q6.rd 2 rfl]
      refine st_set q6 0 rfl fun H7 q7 => ?_
      simp only [List.set_cons_zero, List.set_cons_succ] at q7
      simp -implicitDefEqProofs only [kz, kk0, kk1, kk2, kk3, ↓two_true, ↓two_false, mkv, aggAt, Nat.reduceLeDiff, Nat.reduceSub, Nat.reduceMul, implies_true, Nat.reduceEqDiff, reduceIte, Nat.reduceAdd, Nat.reduceBEq, reduceCtorEq, al26, ap24_24, bd26, bs24_1, bs145_2, fa26_0, fa26_1, ix24, ld3, ld24, ld26, ln24, sn24, sl24, st24, st26, within_eq, twoSign_eq, q7.rd 0 rfl, q7.rd 1 rfl, q7.rd 2 rfl]
      -- end2
      exact q7.err (by unfold innR; rw [show (arrOk sa da && arrOk sb db && sg2 f && sg2 g) = false by simp [w1]]; rfl)
    ·
      have v2 : arrOk sb db = true := by simpa using u2
      try simp -implicitDefEqProofs only [kz, kk0, kk1, kk2, kk3, ↓two_true, ↓two_false, mkv, aggAt, Nat.reduceLeDiff, Nat.reduceSub, Nat.reduceMul, implies_true, Nat.reduceEqDiff, reduceIte, Nat.reduceAdd, Nat.reduceBEq, reduceCtorEq, al26, ap24_24, bd26, bs24_1, bs145_2, fa26_0, fa26_1, ix24, ld3, ld24, ld26, ln24, sn24, sl24, st24, st26, within_eq, twoSign_eq, q6.rd 0 rfl, q6.rd 1 rfl, q6.rd 2 rfl]
      refine two_intro (fun u3 => ?_) (fun u3 => ?_)
      ·
        have w1 : sg2 f = false := by simpa using u3
        try simp -implicitDefEqProofs only [kz, kk0, kk1, kk2, kk3, ↓two_true, ↓two_false, mkv, aggAt, Nat.reduceLeDiff, Nat.reduceSub, Nat.reduceMul, implies_true, Nat.reduceEqDiff, reduceIte, Nat.reduceAdd, Nat.reduceBEq, reduceCtorEq, al26, ap24_24, bd26, bs24_1, bs145_2, fa26_0, fa26_1, ix24, ld3, ld24, ld26, ln24, sn24, sl24, st24, st26, within_eq, twoSign_eq, q6.rd 0 rfl, q6.rd 1 rfl, q6.rd 2 rfl]
        refine st_set q6 0 rfl fun H8 q8 => ?_
        simp only [List.set_cons_zero, List.set_cons_succ] at q8
        simp -implicitDefEqProofs only [kz, kk0, kk1, kk2, kk3, ↓two_true, ↓two_false, mkv, aggAt, Nat.reduceLeDiff, Nat.reduceSub, Nat.reduceMul, implies_true, Nat.reduceEqDiff, reduceIte, Nat.reduceAdd, Nat.reduceBEq, reduceCtorEq, al26, ap24_24, bd26, bs24_1, bs145_2, fa26_0, fa26_1, ix24, ld3, ld24, ld26, ln24, sn24, sl24, st24, st26, within_eq, twoSign_eq, q8.rd 0 rfl, q8.rd 1 rfl, q8.rd 2 rfl]
        -- end3
        exact q8.err (by unfold innR; rw [show (arrOk sa da && arrOk sb db && sg2 f && sg2 g) = false by simp [w1]]; rfl)
      ·
        have v3 : sg2 f = true := by simpa using u3
        try simp -implicitDefEqProofs only [kz, kk0, kk1, kk2, kk3, ↓two_true, ↓two_false, mkv, aggAt, Nat.reduceLeDiff, Nat.reduceSub, Nat.reduceMul, implies_true, Nat.reduceEqDiff, reduceIte, Nat.reduceAdd, Nat.reduceBEq, reduceCtorEq, al26, ap24_24, bd26, bs24_1, bs145_2, fa26_0, fa26_1, ix24, ld3, ld24, ld26, ln24, sn24, sl24, st24, st26, within_eq, twoSign_eq, q6.rd 0 rfl, q6.rd 1 rfl, q6.rd 2 rfl]
        refine two_intro (fun u4 => ?_) (fun u4 => ?_)
        ·
          have w1 : sg2 g = false := by simpa using u4
          try simp -implicitDefEqProofs only [kz, kk0, kk1, kk2, kk3, ↓two_true, ↓two_false, mkv, aggAt, Nat.reduceLeDiff, Nat.reduceSub, Nat.reduceMul, implies_true, Nat.reduceEqDiff, reduceIte, Nat.reduceAdd, Nat.reduceBEq, reduceCtorEq, al26, ap24_24, bd26, bs24_1, bs145_2, fa26_0, fa26_1, ix24, ld3, ld24, ld26, ln24, sn24, sl24, st24, st26, within_eq, twoSign_eq, q6.rd 0 rfl, q6.rd 1 rfl, q6.rd 2 rfl]
          refine st_set q6 0 rfl fun H9 q9 => ?_
          simp only [List.set_cons_zero, List.set_cons_succ] at q9
          simp -implicitDefEqProofs only [kz, kk0, kk1, kk2, kk3, ↓two_true, ↓two_false, mkv, aggAt, Nat.reduceLeDiff, Nat.reduceSub, Nat.reduceMul, implies_true, Nat.reduceEqDiff, reduceIte, Nat.reduceAdd, Nat.reduceBEq, reduceCtorEq, al26, ap24_24, bd26, bs24_1, bs145_2, fa26_0, fa26_1, ix24, ld3, ld24, ld26, ln24, sn24, sl24, st24, st26, within_eq, twoSign_eq, q9.rd 0 rfl, q9.rd 1 rfl, q9.rd 2 rfl]
          -- end4
          exact q9.err (by unfold innR; rw [show (arrOk sa da && arrOk sb db && sg2 f && sg2 g) = false by simp [w1]]; rfl)
        ·
          have v4 : sg2 g = true := by simpa using u4
          try simp -implicitDefEqProofs only [kz, kk0, kk1, kk2, kk3, ↓two_true, ↓two_false, mkv, aggAt, Nat.reduceLeDiff, Nat.reduceSub, Nat.reduceMul, implies_true, Nat.reduceEqDiff, reduceIte, Nat.reduceAdd, Nat.reduceBEq, reduceCtorEq, al26, ap24_24, bd26, bs24_1, bs145_2, fa26_0, fa26_1, ix24, ld3, ld24, ld26, ln24, sn24, sl24, st24, st26, within_eq, twoSign_eq, q6.rd 0 rfl, q6.rd 1 rfl, q6.rd 2 rfl]
          refine two_intro (fun u5 => ?_) (fun u5 => ?_)
          ·
            try simp -implicitDefEqProofs only [kz, kk0, kk1, kk2, kk3, ↓two_true, ↓two_false, mkv, aggAt, Nat.reduceLeDiff, Nat.reduceSub, Nat.reduceMul, implies_true, Nat.reduceEqDiff, reduceIte, Nat.reduceAdd, Nat.reduceBEq, reduceCtorEq, al26, ap24_24, bd26, bs24_1, bs145_2, fa26_0, fa26_1, ix24, ld3, ld24, ld26, ln24, sn24, sl24, st24, st26, within_eq, twoSign_eq, q6.rd 0 rfl, q6.rd 1 rfl, q6.rd 2 rfl]
            refine st_set q6 0 rfl fun H10 q10 => ?_
            simp only [List.set_cons_zero, List.set_cons_succ] at q10
            simp -implicitDefEqProofs only [kz, kk0, kk1, kk2, kk3, ↓two_true, ↓two_false, mkv, aggAt, Nat.reduceLeDiff, Nat.reduceSub, Nat.reduceMul, implies_true, Nat.reduceEqDiff, reduceIte, Nat.reduceAdd, Nat.reduceBEq, reduceCtorEq, al26, ap24_24, bd26, bs24_1, bs145_2, fa26_0, fa26_1, ix24, ld3, ld24, ld26, ln24, sn24, sl24, st24, st26, within_eq, twoSign_eq, q10.rd 0 rfl, q10.rd 1 rfl, q10.rd 2 rfl]
            -- end5
            exact q10.err (by unfold innR; rw [show (arrOk sa da && arrOk sb db && sg2 f && sg2 g) = true by rw [v1, v2, v3, v4]; rfl, if_pos rfl, if_pos (fun h => by have h5 : ¬ inB (sa.length : Int) 1 2 = true := (by simpa using u5); exact h5 (inB_true.2 (by omega)))])
          ·
            have v5 : 1 ≤ sa.length ∧ sa.length ≤ 2 := by have h5 := inB_true.1 (by simpa using u5 : inB (sa.length : Int) 1 2 = true); omega
            try simp -implicitDefEqProofs only [kz, kk0, kk1, kk2, kk3, ↓two_true, ↓two_false, mkv, aggAt, Nat.reduceLeDiff, Nat.reduceSub, Nat.reduceMul, implies_true, Nat.reduceEqDiff, reduceIte, Nat.reduceAdd, Nat.reduceBEq, reduceCtorEq, al26, ap24_24, bd26, bs24_1, bs145_2, fa26_0, fa26_1, ix24, ld3, ld24, ld26, ln24, sn24, sl24, st24, st26, within_eq, twoSign_eq, q6.rd 0 rfl, q6.rd 1 rfl, q6.rd 2 rfl]
            refine two_intro (fun u6 => ?_) (fun u6 => ?_)
            ·
              try simp -implicitDefEqProofs only [kz, kk0, kk1, kk2, kk3, ↓two_true, ↓two_false, mkv, aggAt, Nat.reduceLeDiff, Nat.reduceSub, Nat.reduceMul, implies_true, Nat.reduceEqDiff, reduceIte, Nat.reduceAdd, Nat.reduceBEq, reduceCtorEq, al26, ap24_24, bd26, bs24_1, bs145_2, fa26_0, fa26_1, ix24, ld3, ld24, ld26, ln24, sn24, sl24, st24, st26, within_eq, twoSign_eq, q6.rd 0 rfl, q6.rd 1 rfl, q6.rd 2 rfl]
              refine st_set q6 0 rfl fun H11 q11 => ?_
              simp only [List.set_cons_zero, List.set_cons_succ] at q11
              simp -implicitDefEqProofs only [kz, kk0, kk1, kk2, kk3, ↓two_true, ↓two_false, mkv, aggAt, Nat.reduceLeDiff, Nat.reduceSub, Nat.reduceMul, implies_true, Nat.reduceEqDiff, reduceIte, Nat.reduceAdd, Nat.reduceBEq, reduceCtorEq, al26, ap24_24, bd26, bs24_1, bs145_2, fa26_0, fa26_1, ix24, ld3, ld24, ld26, ln24, sn24, sl24, st24, st26, within_eq, twoSign_eq, q11.rd 0 rfl, q11.rd 1 rfl, q11.rd 2 rfl]
              -- end6
              exact q11.err (by unfold innR; rw [show (arrOk sa da && arrOk sb db && sg2 f && sg2 g) = true by rw [v1, v2, v3, v4]; rfl, if_pos rfl, if_pos (fun h => by have h5 : ¬ inB (sb.length : Int) 1 2 = true := (by simpa using u6); exact h5 (inB_true.2 (by omega)))])
            ·
              have v6 : 1 ≤ sb.length ∧ sb.length ≤ 2 := by have h5 := inB_true.1 (by simpa using u6 : inB (sb.length : Int) 1 2 = true); omega
              have hra : 1 ≤ sa.length ∧ sa.length ≤ 2 ∧ 1 ≤ sb.length ∧ sb.length ≤ 2 := ⟨v5.1, v5.2, v6.1, v6.2⟩
              obtain ⟨m, p, eA1, eA2, eA3, hm3, hp3, eA4⟩ := inn_a v1 v5.1 v5.2
              obtain ⟨n, r, eB1, eB2, eB3, hn3, hr3, eB4⟩ := inn_b v2 v6.1 v6.2
              have hda3 := arrOk_len v1
              have hdb3 := arrOk_len v2
              have hla : sa.length - 1 < sa.length := by omega
              have hlb : 0 < sb.length := by omega
              have eA5 : sa[sa.length - 1] = (m : Int) := by rw [← eA1, getD_lt hla]
              have eB5 : sb[0] = (n : Int) := by rw [← eB1, headD_get hlb]
              have wl : IntKind.i64.wrap ((sa.length : Int) - 1) = ((sa.length - 1 : Nat) : Int) := by rw [IntWalk.i64_in _ (by omega)]; omega
              obtain ⟨b1, o1, cs1, ei1, fr1, fc1⟩ := ixI (a.os.ext q6.ext) (i := sa.length - 1) hla
              obtain ⟨b2, o2, cs2, ei2, fr2, fc2⟩ := ixI0 (b.os.ext q6.ext) (List.getElem?_eq_getElem hlb)
              try simp -implicitDefEqProofs only [kz, kk0, kk1, kk2, kk3, ↓two_true, ↓two_false, mkv, aggAt, Nat.reduceLeDiff, Nat.reduceSub, Nat.reduceMul, implies_true, Nat.reduceEqDiff, reduceIte, Nat.reduceAdd, Nat.reduceBEq, reduceCtorEq, al26, ap24_24, bd26, bs24_1, bs145_2, fa26_0, fa26_1, ix24, ld3, ld24, ld26, ln24, sn24, sl24, st24, st26, within_eq, twoSign_eq, wl, eA5, eB5, ei1, fr1, fc1, ei2, fr2, fc2, q6.rd 0 rfl, q6.rd 1 rfl, q6.rd 2 rfl]
              refine two_intro (fun u7 => ?_) (fun u7 => ?_)
              ·
                have hmn : m ≠ n := by have h5 : ¬ (m : Int) = (n : Int) := (by simpa using u7); omega
                try simp -implicitDefEqProofs only [kz, kk0, kk1, kk2, kk3, ↓two_true, ↓two_false, mkv, aggAt, Nat.reduceLeDiff, Nat.reduceSub, Nat.reduceMul, implies_true, Nat.reduceEqDiff, reduceIte, Nat.reduceAdd, Nat.reduceBEq, reduceCtorEq, al26, ap24_24, bd26, bs24_1, bs145_2, fa26_0, fa26_1, ix24, ld3, ld24, ld26, ln24, sn24, sl24, st24, st26, within_eq, twoSign_eq, wl, eA5, eB5, ei1, fr1, fc1, ei2, fr2, fc2, q6.rd 0 rfl, q6.rd 1 rfl, q6.rd 2 rfl]
                refine st_set q6 0 rfl fun H12 q12 => ?_
                simp only [List.set_cons_zero, List.set_cons_succ] at q12
                simp -implicitDefEqProofs only [kz, kk0, kk1, kk2, kk3, ↓two_true, ↓two_false, mkv, aggAt, Nat.reduceLeDiff, Nat.reduceSub, Nat.reduceMul, implies_true, Nat.reduceEqDiff, reduceIte, Nat.reduceAdd, Nat.reduceBEq, reduceCtorEq, al26, ap24_24, bd26, bs24_1, bs145_2, fa26_0, fa26_1, ix24, ld3, ld24, ld26, ln24, sn24, sl24, st24, st26, within_eq, twoSign_eq, wl, eA5, eB5, q12.rd 0 rfl, q12.rd 1 rfl, q12.rd 2 rfl]
                -- end7
                exact q12.err (by unfold innR; rw [show (arrOk sa da && arrOk sb db && sg2 f && sg2 g) = true by rw [v1, v2, v3, v4]; rfl, if_pos rfl, if_neg (fun h => h hra), if_pos (by rw [eA1, eB1]; omega)])
              ·
                have hmn : m = n := by have h5 : (m : Int) = (n : Int) := (by simpa using u7); omega
                subst hmn
                obtain ⟨a1, c1, ev1, hv1, -⟩ := IntRow.sl (P := Try.prog) (t := 24) (e := 3) (lo := none) (hi := (some (.int .i64 ((sa.length - 1 : Nat) : Int)))) (x := 0) (y := (sa.length - 1)) Try.underlying24 (by kernel_rfl) a.os rfl rfl (Nat.zero_le _) (by omega)
                rw [Nat.sub_zero, List.drop_zero] at hv1
                rw [Nat.sub_zero] at ev1
                have es1 := fun Φ => (implSizeOf_ok (hv1.ext q6.ext) (by simp; omega)).eq0 (Φ := Φ)
                obtain ⟨a2, c2, ev2, hv2⟩ := IntRow.tl b.os (by omega)
                have es2 := fun Φ => (implSizeOf_ok (hv2.ext q6.ext) (by simp; omega)).eq0 (Φ := Φ)
                try simp -implicitDefEqProofs only [kz, kk0, kk1, kk2, kk3, ↓two_true, ↓two_false, mkv, aggAt, Nat.reduceLeDiff, Nat.reduceSub, Nat.reduceMul, implies_true, Nat.reduceEqDiff, reduceIte, Nat.reduceAdd, Nat.reduceBEq, reduceCtorEq, al26, ap24_24, bd26, bs24_1, bs145_2, fa26_0, fa26_1, ix24, ld3, ld24, ld26, ln24, sn24, sl24, st24, st26, within_eq, twoSign_eq, wl, eA5, eB5, ev1, es1, ev2, eA2, eB2, es2, ei1, fr1, fc1, ei2, fr2, fc2, q6.rd 0 rfl, q6.rd 1 rfl, q6.rd 2 rfl]
                try simp -implicitDefEqProofs only [kz, kk0, kk1, kk2, kk3, ↓two_true, ↓two_false, mkv, aggAt, Nat.reduceLeDiff, Nat.reduceSub, Nat.reduceMul, implies_true, Nat.reduceEqDiff, reduceIte, Nat.reduceAdd, Nat.reduceBEq, reduceCtorEq, al26, ap24_24, bd26, bs24_1, bs145_2, fa26_0, fa26_1, ix24, ld3, ld24, ld26, ln24, sn24, sl24, st24, st26, within_eq, twoSign_eq, wl, eA5, eB5, ev1, es1, ev2, eA2, eB2, es2, ei1, fr1, fc1, ei2, fr2, fc2, q6.rd 0 rfl, q6.rd 1 rfl, q6.rd 2 rfl]
                refine st_cells q6 fun H13 q13 => ?_
                simp -implicitDefEqProofs only [kz, kk0, kk1, kk2, kk3, ↓two_true, ↓two_false, mkv, aggAt, Nat.reduceLeDiff, Nat.reduceSub, Nat.reduceMul, implies_true, Nat.reduceEqDiff, reduceIte, Nat.reduceAdd, Nat.reduceBEq, reduceCtorEq, al26, ap24_24, bd26, bs24_1, bs145_2, fa26_0, fa26_1, ix24, ld3, ld24, ld26, ln24, sn24, sl24, st24, st26, within_eq, twoSign_eq, wl, eA5, eB5, ev1, es1, ev2, eA2, eB2, es2, q13.rd 0 rfl, q13.rd 1 rfl, q13.rd 2 rfl, q13.rd 3 rfl, q6.rd 0 rfl, q6.rd 1 rfl, q6.rd 2 rfl]
                refine (q13.concat2 (S := (innS sa sb)) 0 rfl (hv1.ext q13.ext) (hv2.ext q13.ext) (by simp; omega) rfl).mono ?_
                rintro _ H14 ⟨a3, c3, rfl, q14⟩
                simp -implicitDefEqProofs only [kz, kk0, kk1, kk2, kk3, ↓two_true, ↓two_false, mkv, aggAt, Nat.reduceLeDiff, Nat.reduceSub, Nat.reduceMul, implies_true, Nat.reduceEqDiff, reduceIte, Nat.reduceAdd, Nat.reduceBEq, reduceCtorEq, al26, ap24_24, bd26, bs24_1, bs145_2, fa26_0, fa26_1, ix24, ld3, ld24, ld26, ln24, sn24, sl24, st24, st26, within_eq, twoSign_eq, wl, eA5, eB5, ev1, es1, ev2, eA2, eB2, es2, q14.rd 1 rfl, q14.rd 2 rfl, q14.rd 3 rfl, q14.rd 4 rfl, q6.rd 0 rfl, q6.rd 1 rfl, q6.rd 2 rfl, q13.rd 0 rfl, q13.rd 1 rfl, q13.rd 2 rfl, q13.rd 3 rfl]
                try simp -implicitDefEqProofs only [kz, kk0, kk1, kk2, kk3, ↓two_true, ↓two_false, mkv, aggAt, Nat.reduceLeDiff, Nat.reduceSub, Nat.reduceMul, implies_true, Nat.reduceEqDiff, reduceIte, Nat.reduceAdd, Nat.reduceBEq, reduceCtorEq, al26, ap24_24, bd26, bs24_1, bs145_2, fa26_0, fa26_1, ix24, ld3, ld24, ld26, ln24, sn24, sl24, st24, st26, within_eq, twoSign_eq, wl, eA5, eB5, ev1, es1, ev2, eA2, eB2, es2, q14.rd 1 rfl, q14.rd 2 rfl, q14.rd 3 rfl, q14.rd 4 rfl, q6.rd 0 rfl, q6.rd 1 rfl, q6.rd 2 rfl, q13.rd 0 rfl, q13.rd 1 rfl, q13.rd 2 rfl, q13.rd 3 rfl]
                refine st_box q14 fun H15 q15 => ?_
                simp -implicitDefEqProofs only [kz, kk0, kk1, kk2, kk3, ↓two_true, ↓two_false, mkv, aggAt, Nat.reduceLeDiff, Nat.reduceSub, Nat.reduceMul, implies_true, Nat.reduceEqDiff, reduceIte, Nat.reduceAdd, Nat.reduceBEq, reduceCtorEq, al26, ap24_24, bd26, bs24_1, bs145_2, fa26_0, fa26_1, ix24, ld3, ld24, ld26, ln24, sn24, sl24, st24, st26, within_eq, twoSign_eq, wl, eA5, eB5, ev1, es1, ev2, eA2, eB2, es2, q15.rd 0 rfl, q15.rd 2 rfl, q15.rd 3 rfl, q15.rd 4 rfl, q15.rd 5 rfl, q6.rd 0 rfl, q6.rd 1 rfl, q6.rd 2 rfl, q13.rd 0 rfl, q13.rd 1 rfl, q13.rd 2 rfl, q13.rd 3 rfl, q14.rd 1 rfl, q14.rd 2 rfl, q14.rd 3 rfl, q14.rd 4 rfl]
                refine st_set q15 0 rfl fun H16 q16 => ?_
                simp only [List.set_cons_zero, List.set_cons_succ] at q16
                simp -implicitDefEqProofs only [kz, kk0, kk1, kk2, kk3, ↓two_true, ↓two_false, mkv, aggAt, Nat.reduceLeDiff, Nat.reduceSub, Nat.reduceMul, implies_true, Nat.reduceEqDiff, reduceIte, Nat.reduceAdd, Nat.reduceBEq, reduceCtorEq, al26, ap24_24, bd26, bs24_1, bs145_2, fa26_0, fa26_1, ix24, ld3, ld24, ld26, ln24, sn24, sl24, st24, st26, within_eq, twoSign_eq, wl, eA5, eB5, ev1, es1, ev2, eA2, eB2, es2, q16.rd 0 rfl, q16.rd 2 rfl, q16.rd 3 rfl, q16.rd 4 rfl, q16.rd 5 rfl, q6.rd 0 rfl, q6.rd 1 rfl, q6.rd 2 rfl, q13.rd 0 rfl, q13.rd 1 rfl, q13.rd 2 rfl, q13.rd 3 rfl, q14.rd 1 rfl, q14.rd 2 rfl, q14.rd 3 rfl, q14.rd 4 rfl, q15.rd 0 rfl, q15.rd 2 rfl, q15.rd 3 rfl, q15.rd 4 rfl, q15.rd 5 rfl]
                have es3 := fun Φ => (implShapeOk_ok (q16.int 1 rfl) (by have : (innS sa sb).length ≤ sa.length + sb.length := (by simp [innS]; omega); omega)).eq0 (Φ := Φ)
                try simp -implicitDefEqProofs only [kz, kk0, kk1, kk2, kk3, ↓two_true, ↓two_false, mkv, aggAt, Nat.reduceLeDiff, Nat.reduceSub, Nat.reduceMul, implies_true, Nat.reduceEqDiff, reduceIte, Nat.reduceAdd, Nat.reduceBEq, reduceCtorEq, al26, ap24_24, bd26, bs24_1, bs145_2, fa26_0, fa26_1, ix24, ld3, ld24, ld26, ln24, sn24, sl24, st24, st26, within_eq, twoSign_eq, wl, eA5, eB5, ev1, es1, ev2, eA2, eB2, es2, es3, q16.rd 0 rfl, q16.rd 2 rfl, q16.rd 3 rfl, q16.rd 4 rfl, q16.rd 5 rfl]
                refine two_intro (fun u8 => ?_) (fun u8 => ?_)
                ·
                  have hsz : ¬ 0 ≤ sizeI (innS sa sb) := by simpa using u8
                  try simp -implicitDefEqProofs only [kz, kk0, kk1, kk2, kk3, ↓two_true, ↓two_false, mkv, aggAt, Nat.reduceLeDiff, Nat.reduceSub, Nat.reduceMul, implies_true, Nat.reduceEqDiff, reduceIte, Nat.reduceAdd, Nat.reduceBEq, reduceCtorEq, al26, ap24_24, bd26, bs24_1, bs145_2, fa26_0, fa26_1, ix24, ld3, ld24, ld26, ln24, sn24, sl24, st24, st26, within_eq, twoSign_eq, wl, eA5, eB5, ev1, es1, ev2, eA2, eB2, es2, es3, q16.rd 0 rfl, q16.rd 2 rfl, q16.rd 3 rfl, q16.rd 4 rfl, q16.rd 5 rfl]
                  refine st_set q16 3 rfl fun H17 q17 => ?_
                  simp only [List.set_cons_zero, List.set_cons_succ] at q17
                  simp -implicitDefEqProofs only [kz, kk0, kk1, kk2, kk3, ↓two_true, ↓two_false, mkv, aggAt, Nat.reduceLeDiff, Nat.reduceSub, Nat.reduceMul, implies_true, Nat.reduceEqDiff, reduceIte, Nat.reduceAdd, Nat.reduceBEq, reduceCtorEq, al26, ap24_24, bd26, bs24_1, bs145_2, fa26_0, fa26_1, ix24, ld3, ld24, ld26, ln24, sn24, sl24, st24, st26, within_eq, twoSign_eq, wl, eA5, eB5, ev1, es1, ev2, eA2, eB2, es2, es3, q17.rd 0 rfl, q17.rd 2 rfl, q17.rd 3 rfl, q17.rd 4 rfl, q17.rd 5 rfl]
                  -- end8
                  exact q17.err (by unfold innR; rw [show (arrOk sa da && arrOk sb db && sg2 f && sg2 g) = true by rw [v1, v2, v3, v4]; rfl, if_pos rfl, if_neg (fun h => h hra), if_neg (by rw [eA1, eB1]; omega), if_pos (by omega)])
                ·
                  have hsz : 0 ≤ sizeI (innS sa sb) := by simpa using u8
                  obtain ⟨hs1, hs2⟩ := inn_s eA4 eB4 hsz
                  try simp -implicitDefEqProofs only [kz, kk0, kk1, kk2, kk3, ↓two_true, ↓two_false, mkv, aggAt, Nat.reduceLeDiff, Nat.reduceSub, Nat.reduceMul, implies_true, Nat.reduceEqDiff, reduceIte, Nat.reduceAdd, Nat.reduceBEq, reduceCtorEq, al26, ap24_24, bd26, bs24_1, bs145_2, fa26_0, fa26_1, ix24, ld3, ld24, ld26, ln24, sn24, sl24, st24, st26, within_eq, twoSign_eq, wl, eA5, eB5, ev1, es1, ev2, eA2, eB2, es2, es3, q16.rd 0 rfl, q16.rd 2 rfl, q16.rd 3 rfl, q16.rd 4 rfl, q16.rd 5 rfl]
                  have q18 := q16.nil0
                  refine rW_loopQ (σ := Nat × Option Addr × Nat) q18 [0, 1, 6, 7, 8, 11, 12, 13, 14] (fun x tm => tm 15 = .int .i64 x.1 ∧ x.1 ≤ p ∧ ∀ j, j < x.1 * r → (innN f g sb da db j).2 = 0) (fun x L => (L.set 1 (.own (.box H14.length [.slice a3 (innS sa sb).length c3, .slice x.2.1 (innD f g sb da db (x.1 * r)).length x.2.2]))).set 0 (.own (.row (.slice x.2.1 (innD f g sb da db (x.1 * r)).length x.2.2) (innD f g sb da db (x.1 * r))))) (fun x => p - x.1) (0, none, 0) ⟨rfl, Nat.zero_le _, fun j hj => by omega⟩ (by simp only [Nat.zero_mul]; rfl) ?_
                  rintro ⟨i, av, cv⟩ tm1 H18 ⟨lv1, lv2, lv3, lv4, lv5, lv6, lv7, lv8, lv9, -⟩ ⟨ki, hi, hz⟩ q19
                  simp -implicitDefEqProofs only [kz, kk0, kk1, kk2, kk3, ↓two_true, ↓two_false, mkv, aggAt, Nat.reduceLeDiff, Nat.reduceSub, Nat.reduceMul, implies_true, Nat.reduceEqDiff, reduceIte, Nat.reduceAdd, Nat.reduceBEq, reduceCtorEq, al26, ap24_24, bd26, bs24_1, bs145_2, fa26_0, fa26_1, ix24, ld3, ld24, ld26, ln24, sn24, sl24, st24, st26, wl, eA5, eB5, ev1, es1, ev2, eA2, eB2, es2, es3] at lv1 lv2 lv3 lv4 lv5 lv6 lv7 lv8 lv9
                  simp only [List.set_cons_zero, List.set_cons_succ] at q19
                  simp only at ki hi hz
                  have wi : IntKind.i64.wrap ((i : Int) + 1) = ((i + 1 : Nat) : Int) := IntWalk.i64_in ((i : Int) + 1) (by omega)
                  simp -implicitDefEqProofs only [kz, kk0, kk1, kk2, kk3, ↓two_true, ↓two_false, mkv, aggAt, Nat.reduceLeDiff, Nat.reduceSub, Nat.reduceMul, implies_true, Nat.reduceEqDiff, reduceIte, Nat.reduceAdd, Nat.reduceBEq, reduceCtorEq, al26, ap24_24, bd26, bs24_1, bs145_2, fa26_0, fa26_1, ix24, ld3, ld24, ld26, ln24, sn24, sl24, st24, st26, within_eq, twoSign_eq, wl, eA5, eB5, ev1, es1, ev2, eA2, eB2, es2, es3, lv1, lv2, lv3, lv4, lv5, lv6, lv7, lv8, lv9, ki, wi, q19.rd 1 rfl, q19.rd 3 rfl, q19.rd 4 rfl, q19.rd 5 rfl, q19.rd 6 rfl]
                  refine two_intro (fun u9 => ?_) (fun u9 => ?_)
                  ·
                    have hi2 : i < p := by simpa using u9
                    have hir : i * r + r ≤ p * r := by have := Nat.mul_le_mul_right r (show i + 1 ≤ p from hi2); rw [Nat.add_mul, Nat.one_mul] at this; exact this
                    have him : i * m + m ≤ p * m := by have := Nat.mul_le_mul_right m (show i + 1 ≤ p from hi2); rw [Nat.add_mul, Nat.one_mul] at this; exact this
                    try simp -implicitDefEqProofs only [kz, kk0, kk1, kk2, kk3, ↓two_true, ↓two_false, mkv, aggAt, Nat.reduceLeDiff, Nat.reduceSub, Nat.reduceMul, implies_true, Nat.reduceEqDiff, reduceIte, Nat.reduceAdd, Nat.reduceBEq, reduceCtorEq, al26, ap24_24, bd26, bs24_1, bs145_2, fa26_0, fa26_1, ix24, ld3, ld24, ld26, ln24, sn24, sl24, st24, st26, within_eq, twoSign_eq, wl, eA5, eB5, ev1, es1, ev2, eA2, eB2, es2, es3, lv1, lv2, lv3, lv4, lv5, lv6, lv7, lv8, lv9, ki, wi, q19.rd 1 rfl, q19.rd 3 rfl, q19.rd 4 rfl, q19.rd 5 rfl, q19.rd 6 rfl]
                    refine rW_loopQ (σ := Nat × Option Addr × Nat) q19 [0, 1, 6, 7, 8, 11, 12, 13, 14, 15] (fun x tm => tm 16 = .int .i64 x.1 ∧ x.1 ≤ r ∧ ∀ j, j < i * r + x.1 → (innN f g sb da db j).2 = 0) (fun x L => (L.set 1 (.own (.box H14.length [.slice a3 (innS sa sb).length c3, .slice x.2.1 (innD f g sb da db (i * r + x.1)).length x.2.2]))).set 0 (.own (.row (.slice x.2.1 (innD f g sb da db (i * r + x.1)).length x.2.2) (innD f g sb da db (i * r + x.1))))) (fun x => r - x.1) (0, av, cv) ⟨rfl, Nat.zero_le _, fun j hj => hz j (by omega)⟩ (by simp only [Nat.add_zero]; rfl) ?_
                    rintro ⟨k, aw, cw⟩ tm2 H19 ⟨lv10, lv11, lv12, lv13, lv14, lv15, lv16, lv17, lv18, lv19, -⟩ ⟨kn, hk, hz2⟩ q20
                    simp -implicitDefEqProofs only [kz, kk0, kk1, kk2, kk3, ↓two_true, ↓two_false, mkv, aggAt, Nat.reduceLeDiff, Nat.reduceSub, Nat.reduceMul, implies_true, Nat.reduceEqDiff, reduceIte, Nat.reduceAdd, Nat.reduceBEq, reduceCtorEq, al26, ap24_24, bd26, bs24_1, bs145_2, fa26_0, fa26_1, ix24, ld3, ld24, ld26, ln24, sn24, sl24, st24, st26, lv1, lv2, lv3, lv4, lv5, lv6, lv7, lv8, lv9, ki, wi, wl, eA5, eB5, ev1, es1, ev2, eA2, eB2, es2, es3] at lv10 lv11 lv12 lv13 lv14 lv15 lv16 lv17 lv18 lv19
                    simp only [List.set_cons_zero, List.set_cons_succ] at q20
                    simp only at kn hk hz2
                    simp -implicitDefEqProofs only [kz, kk0, kk1, kk2, kk3, ↓two_true, ↓two_false, mkv, aggAt, Nat.reduceLeDiff, Nat.reduceSub, Nat.reduceMul, implies_true, Nat.reduceEqDiff, reduceIte, Nat.reduceAdd, Nat.reduceBEq, reduceCtorEq, al26, ap24_24, bd26, bs24_1, bs145_2, fa26_0, fa26_1, ix24, ld3, ld24, ld26, ln24, sn24, sl24, st24, st26, within_eq, twoSign_eq, wl, eA5, eB5, ev1, es1, ev2, eA2, eB2, es2, es3, ki, wi, lv10, lv11, lv12, lv13, lv14, lv15, lv16, lv17, lv18, lv19, kn, q20.rd 1 rfl, q20.rd 3 rfl, q20.rd 4 rfl, q20.rd 5 rfl, q20.rd 6 rfl]
                    refine two_intro (fun u10 => ?_) (fun u10 => ?_)
                    ·
                      have hk2 : k < r := by simpa using u10
                      have wk : IntKind.i64.wrap ((k : Int) + 1) = ((k + 1 : Nat) : Int) := IntWalk.i64_in ((k : Int) + 1) (by omega)
                      have wm : IntKind.i64.wrap ((i : Int) * (m : Int)) = ((i * m : Nat) : Int) := by rw [← Int.natCast_mul]; exact IntWalk.i64_in _ (by omega)
                      have hmin : (if (db.length : Int) < (k : Int) then (db.length : Int) else (k : Int)) = ((min k db.length : Nat) : Int) := by split <;> omega
                      have hx0 : 0 < m → min k db.length = k := fun h0 => by have := Nat.mul_le_mul_right r (show 1 ≤ m from h0); omega
                      obtain ⟨a4, c4, ev3, hv3, -⟩ := IntRow.sl (P := Try.prog) (t := 24) (e := 3) (lo := (some (.int .i64 ((i * m : Nat) : Int)))) (hi := none) (x := (i * m)) (y := (da).length) Try.underlying24 (by kernel_rfl) a.od rfl rfl (by omega) (Nat.le_refl _)
                      rw [List.take_of_length_le (by simp)] at hv3
                      obtain ⟨a5, c5, ev4, hv4, -⟩ := IntRow.sl (P := Try.prog) (t := 24) (e := 3) (lo := (some (.int .i64 ((min k db.length : Nat) : Int)))) (hi := none) (x := (min k db.length)) (y := (db).length) Try.underlying24 (by kernel_rfl) b.od rfl rfl (by omega) (Nat.le_refl _)
                      rw [List.take_of_length_le (by simp)] at hv4
                      try simp -implicitDefEqProofs only [kz, kk0, kk1, kk2, kk3, ↓two_true, ↓two_false, mkv, aggAt, Nat.reduceLeDiff, Nat.reduceSub, Nat.reduceMul, implies_true, Nat.reduceEqDiff, reduceIte, Nat.reduceAdd, Nat.reduceBEq, reduceCtorEq, al26, ap24_24, bd26, bs24_1, bs145_2, fa26_0, fa26_1, ix24, ld3, ld24, ld26, ln24, sn24, sl24, st24, st26, within_eq, twoSign_eq, wl, eA5, eB5, ev1, es1, ev2, eA2, eB2, es2, es3, wk, wm, hmin, ev3, ev4, ki, wi, lv10, lv11, lv12, lv13, lv14, lv15, lv16, lv17, lv18, lv19, kn, q20.rd 1 rfl, q20.rd 3 rfl, q20.rd 4 rfl, q20.rd 5 rfl, q20.rd 6 rfl]
                      have hd1 := implDot_ok (f := f) (g := g) (m := m) (sp := r) (hv3.ext q20.ext) (hv4.ext q20.ext) v3 (by rw [List.length_drop]; omega) (fun j hj => by
                        have h5 := hx0 (by omega)
                        have h6 := inn_lt hj hk2
                        rw [List.length_drop]; omega) (by rw [List.length_drop]; omega) (by rw [List.length_drop]; omega)
                      rw [inn_cell eB1 eB2 hk2 hx0] at hd1
                      refine hd1.mono ?_
                      rintro _ H20 ⟨rfl, he3⟩
                      have q21 := q20.extd he3
                      simp -implicitDefEqProofs only [kz, kk0, kk1, kk2, kk3, ↓two_true, ↓two_false, mkv, aggAt, Nat.reduceLeDiff, Nat.reduceSub, Nat.reduceMul, implies_true, Nat.reduceEqDiff, reduceIte, Nat.reduceAdd, Nat.reduceBEq, reduceCtorEq, al26, ap24_24, bd26, bs24_1, bs145_2, fa26_0, fa26_1, ix24, ld3, ld24, ld26, ln24, sn24, sl24, st24, st26, within_eq, twoSign_eq, wl, eA5, eB5, ev1, es1, ev2, eA2, eB2, es2, es3, wk, wm, hmin, ev3, ev4, ki, wi, lv10, lv11, lv12, lv13, lv14, lv15, lv16, lv17, lv18, lv19, kn, q21.rd 1 rfl, q21.rd 3 rfl, q21.rd 4 rfl, q21.rd 5 rfl, q21.rd 6 rfl, q20.rd 1 rfl, q20.rd 3 rfl, q20.rd 4 rfl, q20.rd 5 rfl, q20.rd 6 rfl]
                      try simp -implicitDefEqProofs only [kz, kk0, kk1, kk2, kk3, ↓two_true, ↓two_false, mkv, aggAt, Nat.reduceLeDiff, Nat.reduceSub, Nat.reduceMul, implies_true, Nat.reduceEqDiff, reduceIte, Nat.reduceAdd, Nat.reduceBEq, reduceCtorEq, al26, ap24_24, bd26, bs24_1, bs145_2, fa26_0, fa26_1, ix24, ld3, ld24, ld26, ln24, sn24, sl24, st24, st26, within_eq, twoSign_eq, wl, eA5, eB5, ev1, es1, ev2, eA2, eB2, es2, es3, wk, wm, hmin, ev3, ev4, ki, wi, lv10, lv11, lv12, lv13, lv14, lv15, lv16, lv17, lv18, lv19, kn, q21.rd 1 rfl, q21.rd 3 rfl, q21.rd 4 rfl, q21.rd 5 rfl, q21.rd 6 rfl]
                      refine two_intro (fun u11 => ?_) (fun u11 => ?_)
                      ·
                        have hne : (innN f g sb da db (i * r + k)).2 ≠ 0 := by simpa using u11
                        try simp -implicitDefEqProofs only [kz, kk0, kk1, kk2, kk3, ↓two_true, ↓two_false, mkv, aggAt, Nat.reduceLeDiff, Nat.reduceSub, Nat.reduceMul, implies_true, Nat.reduceEqDiff, reduceIte, Nat.reduceAdd, Nat.reduceBEq, reduceCtorEq, al26, ap24_24, bd26, bs24_1, bs145_2, fa26_0, fa26_1, ix24, ld3, ld24, ld26, ln24, sn24, sl24, st24, st26, within_eq, twoSign_eq, wl, eA5, eB5, ev1, es1, ev2, eA2, eB2, es2, es3, wk, wm, hmin, ev3, ev4, ki, wi, lv10, lv11, lv12, lv13, lv14, lv15, lv16, lv17, lv18, lv19, kn, q21.rd 1 rfl, q21.rd 3 rfl, q21.rd 4 rfl, q21.rd 5 rfl, q21.rd 6 rfl]
                        refine st_set q21 4 rfl fun H21 q22 => ?_
                        simp only [List.set_cons_zero, List.set_cons_succ] at q22
                        simp -implicitDefEqProofs only [kz, kk0, kk1, kk2, kk3, ↓two_true, ↓two_false, mkv, aggAt, Nat.reduceLeDiff, Nat.reduceSub, Nat.reduceMul, implies_true, Nat.reduceEqDiff, reduceIte, Nat.reduceAdd, Nat.reduceBEq, reduceCtorEq, al26, ap24_24, bd26, bs24_1, bs145_2, fa26_0, fa26_1, ix24, ld3, ld24, ld26, ln24, sn24, sl24, st24, st26, within_eq, twoSign_eq, wl, eA5, eB5, ev1, es1, ev2, eA2, eB2, es2, es3, wk, wm, hmin, ev3, ev4, ki, wi, lv10, lv11, lv12, lv13, lv14, lv15, lv16, lv17, lv18, lv19, kn, q22.rd 1 rfl, q22.rd 3 rfl, q22.rd 4 rfl, q22.rd 5 rfl, q22.rd 6 rfl]
                        -- end9
                        exact q22.err (by unfold innR; rw [show (arrOk sa da && arrOk sb db && sg2 f && sg2 g) = true by rw [v1, v2, v3, v4]; rfl, if_pos rfl, if_neg (fun h => h hra), if_neg (by rw [eA1, eB1]; omega), if_neg (by omega), show innC f g sb da db (sizeI (innS sa sb)).toNat = (innN f g sb da db (i * r + k)).2 by rw [(inn_s eA4 eB4 hsz).1]; exact firstC_rng (inn_lt hi2 hk2) hz2 hne, if_neg hne])
                      ·
                        have hz1 : (innN f g sb da db (i * r + k)).2 = 0 := by simpa using u11
                        try simp -implicitDefEqProofs only [kz, kk0, kk1, kk2, kk3, ↓two_true, ↓two_false, mkv, aggAt, Nat.reduceLeDiff, Nat.reduceSub, Nat.reduceMul, implies_true, Nat.reduceEqDiff, reduceIte, Nat.reduceAdd, Nat.reduceBEq, reduceCtorEq, al26, ap24_24, bd26, bs24_1, bs145_2, fa26_0, fa26_1, ix24, ld3, ld24, ld26, ln24, sn24, sl24, st24, st26, within_eq, twoSign_eq, wl, eA5, eB5, ev1, es1, ev2, eA2, eB2, es2, es3, wk, wm, hmin, ev3, ev4, ki, wi, lv10, lv11, lv12, lv13, lv14, lv15, lv16, lv17, lv18, lv19, kn, q21.rd 1 rfl, q21.rd 3 rfl, q21.rd 4 rfl, q21.rd 5 rfl, q21.rd 6 rfl]
                        refine st_lit [(innN f g sb da db (i * r + k)).1] rfl rfl q21 fun H22 q23 => ?_
                        simp -implicitDefEqProofs only [kz, kk0, kk1, kk2, kk3, ↓two_true, ↓two_false, mkv, aggAt, Nat.reduceLeDiff, Nat.reduceSub, Nat.reduceMul, implies_true, Nat.reduceEqDiff, reduceIte, Nat.reduceAdd, Nat.reduceBEq, reduceCtorEq, al26, ap24_24, bd26, bs24_1, bs145_2, fa26_0, fa26_1, ix24, ld3, ld24, ld26, ln24, sn24, sl24, st24, st26, within_eq, twoSign_eq, wl, eA5, eB5, ev1, es1, ev2, eA2, eB2, es2, es3, wk, wm, hmin, ev3, ev4, ki, wi, lv10, lv11, lv12, lv13, lv14, lv15, lv16, lv17, lv18, lv19, kn, q23.rd 2 rfl, q23.rd 4 rfl, q23.rd 5 rfl, q23.rd 6 rfl, q23.rd 7 rfl]
                        refine st_app q23 1 rfl (q23.int 0 rfl) (by rw [innD_len]; simp; omega) fun a6 c6 H23 q24 => ?_
                        simp only [List.set_cons_zero, List.set_cons_succ, List.length_nil, List.length_cons, Nat.zero_add, List.nil_append] at q24 ⊢
                        simp -implicitDefEqProofs only [kz, kk0, kk1, kk2, kk3, ↓two_true, ↓two_false, mkv, aggAt, Nat.reduceLeDiff, Nat.reduceSub, Nat.reduceMul, implies_true, Nat.reduceEqDiff, reduceIte, Nat.reduceAdd, Nat.reduceBEq, reduceCtorEq, al26, ap24_24, bd26, bs24_1, bs145_2, fa26_0, fa26_1, ix24, ld3, ld24, ld26, ln24, sn24, sl24, st24, st26, within_eq, twoSign_eq, wl, eA5, eB5, ev1, es1, ev2, eA2, eB2, es2, es3, wk, wm, hmin, ev3, ev4, ki, wi, lv10, lv11, lv12, lv13, lv14, lv15, lv16, lv17, lv18, lv19, kn, q24.rd 2 rfl, q24.rd 4 rfl, q24.rd 5 rfl, q24.rd 6 rfl, q24.rd 7 rfl]
                        refine st_set q24 2 rfl fun H24 q25 => ?_
                        simp only [List.set_cons_zero, List.set_cons_succ] at q25
                        simp -implicitDefEqProofs only [kz, kk0, kk1, kk2, kk3, ↓two_true, ↓two_false, mkv, aggAt, Nat.reduceLeDiff, Nat.reduceSub, Nat.reduceMul, implies_true, Nat.reduceEqDiff, reduceIte, Nat.reduceAdd, Nat.reduceBEq, reduceCtorEq, al26, ap24_24, bd26, bs24_1, bs145_2, fa26_0, fa26_1, ix24, ld3, ld24, ld26, ln24, sn24, sl24, st24, st26, within_eq, twoSign_eq, wl, eA5, eB5, ev1, es1, ev2, eA2, eB2, es2, es3, wk, wm, hmin, ev3, ev4, ki, wi, lv10, lv11, lv12, lv13, lv14, lv15, lv16, lv17, lv18, lv19, kn, q25.rd 2 rfl, q25.rd 4 rfl, q25.rd 5 rfl, q25.rd 6 rfl, q25.rd 7 rfl]
                        -- back loop2
                        refine ⟨(k + 1, a6, c6), (by simp only; omega), ⟨rfl, rfl, rfl, rfl, rfl, rfl, rfl, rfl, rfl, rfl, trivial⟩, ⟨by first | rfl | simp, hk2, fun j hj => by
                          rcases Nat.lt_or_ge j (i * r + k) with h | h
                          · exact hz2 j h
                          · have e : j = i * r + k := (by omega)
                            subst e; exact hz1⟩, ?_⟩
                        simp only [List.set_cons_zero, List.set_cons_succ, ← Nat.add_assoc, innD_succ, List.length_append, List.length_cons, List.length_nil]
                        exact q25.pick [1, 2, 3, 4, 5, 6, 7] _ rfl (by decide)
                    ·
                      have hkl : k = r := Nat.le_antisymm hk (Nat.not_lt.1 (by simpa using u10))
                      subst hkl
                      try simp -implicitDefEqProofs only [kz, kk0, kk1, kk2, kk3, ↓two_true, ↓two_false, mkv, aggAt, Nat.reduceLeDiff, Nat.reduceSub, Nat.reduceMul, implies_true, Nat.reduceEqDiff, reduceIte, Nat.reduceAdd, Nat.reduceBEq, reduceCtorEq, al26, ap24_24, bd26, bs24_1, bs145_2, fa26_0, fa26_1, ix24, ld3, ld24, ld26, ln24, sn24, sl24, st24, st26, within_eq, twoSign_eq, wl, eA5, eB5, ev1, es1, ev2, eA2, eB2, es2, es3, ki, wi, lv10, lv11, lv12, lv13, lv14, lv15, lv16, lv17, lv18, lv19, kn, q20.rd 1 rfl, q20.rd 3 rfl, q20.rd 4 rfl, q20.rd 5 rfl, q20.rd 6 rfl]
                      -- back loop1
                      refine ⟨(i + 1, aw, cw), (by simp only; omega), ⟨(lv10.trans lv1.symm), (lv11.trans lv2.symm), (lv12.trans lv3.symm), (lv13.trans lv4.symm), (lv14.trans lv5.symm), (lv15.trans lv6.symm), (lv16.trans lv7.symm), (lv17.trans lv8.symm), (lv18.trans lv9.symm), trivial⟩, ⟨by first | rfl | simp, hi2, fun j hj => hz2 j (by rw [Nat.add_mul, Nat.one_mul] at hj; exact hj)⟩, ?_⟩
                      simp only [List.set_cons_zero, List.set_cons_succ, Nat.add_mul, Nat.one_mul]
                      exact q20
                  ·
                    have hil : i = p := Nat.le_antisymm hi (Nat.not_lt.1 (by simpa using u9))
                    subst hil
                    try simp -implicitDefEqProofs only [kz, kk0, kk1, kk2, kk3, ↓two_true, ↓two_false, mkv, aggAt, Nat.reduceLeDiff, Nat.reduceSub, Nat.reduceMul, implies_true, Nat.reduceEqDiff, reduceIte, Nat.reduceAdd, Nat.reduceBEq, reduceCtorEq, al26, ap24_24, bd26, bs24_1, bs145_2, fa26_0, fa26_1, ix24, ld3, ld24, ld26, ln24, sn24, sl24, st24, st26, within_eq, twoSign_eq, wl, eA5, eB5, ev1, es1, ev2, eA2, eB2, es2, es3, lv1, lv2, lv3, lv4, lv5, lv6, lv7, lv8, lv9, ki, wi, q19.rd 1 rfl, q19.rd 3 rfl, q19.rd 4 rfl, q19.rd 5 rfl, q19.rd 6 rfl]
                    refine st_set q19 4 rfl fun H25 q26 => ?_
                    simp only [List.set_cons_zero, List.set_cons_succ] at q26
                    simp -implicitDefEqProofs only [kz, kk0, kk1, kk2, kk3, ↓two_true, ↓two_false, mkv, aggAt, Nat.reduceLeDiff, Nat.reduceSub, Nat.reduceMul, implies_true, Nat.reduceEqDiff, reduceIte, Nat.reduceAdd, Nat.reduceBEq, reduceCtorEq, al26, ap24_24, bd26, bs24_1, bs145_2, fa26_0, fa26_1, ix24, ld3, ld24, ld26, ln24, sn24, sl24, st24, st26, within_eq, twoSign_eq, wl, eA5, eB5, ev1, es1, ev2, eA2, eB2, es2, es3, lv1, lv2, lv3, lv4, lv5, lv6, lv7, lv8, lv9, ki, wi, q26.rd 1 rfl, q26.rd 3 rfl, q26.rd 4 rfl, q26.rd 5 rfl, q26.rd 6 rfl]
                    -- end10
                    exact q26.ans 2 0 (by decide) rfl rfl (by unfold innR; rw [show (arrOk sa da && arrOk sb db && sg2 f && sg2 g) = true by rw [v1, v2, v3, v4]; rfl, if_pos rfl, if_neg (fun h => h hra), if_neg (by rw [eA1, eB1]; omega), if_neg (by omega), if_pos (by rw [(inn_s eA4 eB4 hsz).1]; exact firstC_rng0 hz), (inn_s eA4 eB4 hsz).1])

end Go.Proofs.Ytockhdhilemfkaa.AM
