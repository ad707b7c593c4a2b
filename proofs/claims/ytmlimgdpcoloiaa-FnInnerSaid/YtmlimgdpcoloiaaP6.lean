/- What the functions answer, part 6. -/
import Derived.Test.YtmlimgdpcoloiaaP5
set_option linter.unusedVariables false
set_option linter.unusedSimpArgs false
set_option linter.defProp false
set_option maxRecDepth 100000
/- What the functions answer, part 6. -/
namespace Go.Proofs.Ytmlimgdpcoloiaa.AM
open Go Go.Proofs.Ytmlimgdpcoloiaa Go.Proofs
set_option maxHeartbeats 4000000 in
theorem law6 : LawA Try.prog 6 [35] := by
  intro H vs hro h
  obtain ⟨v, vs, rfl, hv, h2⟩ := h.cons
  obtain rfl := h2.nil
  obtain ⟨a0, n0, c0, rfl, hb⟩ := rpBytes hv Try.underlying35 Try.underlying5 (by kernel_rfl)
  clear hv h2 hro
  have q := (LX.nil (H := H))
  refine w6 ?_
  unfold k6
  simp -implicitDefEqProofs only [kz, kk0, kk1, kk2, kk3, ↓two_true, ↓two_false, mkv, aggAt, Nat.reduceLeDiff, Nat.reduceSub, Nat.reduceMul, implies_true, Nat.reduceEqDiff, reduceIte, Nat.reduceAdd, Nat.reduceBEq, reduceCtorEq, al26, ap22_22, bs22_0, bs22_1, fa26_0, fa26_1, ix22, ld3, ld22, ld26, ln22, sn22, sl22, st26, big_eq, bne_self_eq_false, beq_self_eq_true, Bool.not_true, Bool.and_self, cast0]
  refine two_intro (fun u1 => ?_) (fun u1 => ?_)
  ·
    try simp -implicitDefEqProofs only [kz, kk0, kk1, kk2, kk3, ↓two_true, ↓two_false, mkv, aggAt, Nat.reduceLeDiff, Nat.reduceSub, Nat.reduceMul, implies_true, Nat.reduceEqDiff, reduceIte, Nat.reduceAdd, Nat.reduceBEq, reduceCtorEq, al26, ap22_22, bs22_0, bs22_1, fa26_0, fa26_1, ix22, ld3, ld22, ld26, ln22, sn22, sl22, st26, big_eq, bne_self_eq_false, beq_self_eq_true, Bool.not_true, Bool.and_self, cast0]
    -- end1
    all_goals trivial
  ·
    have hn0 : n0 ≤ 1048576 := by simp at u1; omega
    try simp -implicitDefEqProofs only [kz, kk0, kk1, kk2, kk3, ↓two_true, ↓two_false, mkv, aggAt, Nat.reduceLeDiff, Nat.reduceSub, Nat.reduceMul, implies_true, Nat.reduceEqDiff, reduceIte, Nat.reduceAdd, Nat.reduceBEq, reduceCtorEq, al26, ap22_22, bs22_0, bs22_1, fa26_0, fa26_1, ix22, ld3, ld22, ld26, ln22, sn22, sl22, st26, big_eq, bne_self_eq_false, beq_self_eq_true, Bool.not_true, Bool.and_self, cast0]
    refine (DrawInner_ok (BRv.ext ⟨a0, n0, c0, rfl, hn0, hb⟩ q.ext)).mono ?_
    rintro _ H1 ⟨f, g, p1, p2, sa, da, p3, p4, sb, db, rfl, g1, lsa, lda, lsb, ldb⟩
    have q1 := q.join g1
    simp only [List.map_cons, List.map_nil, List.cons_append, List.nil_append] at q1
    obtain ⟨a1, c1, rfl⟩ := (q1.own 0 rfl).isSlice
    obtain ⟨a2, c2, rfl⟩ := (q1.own 1 rfl).isSlice
    obtain ⟨a3, c3, rfl⟩ := (q1.own 2 rfl).isSlice
    obtain ⟨a4, c4, rfl⟩ := (q1.own 3 rfl).isSlice
    simp -implicitDefEqProofs only [kz, kk0, kk1, kk2, kk3, ↓two_true, ↓two_false, mkv, aggAt, Nat.reduceLeDiff, Nat.reduceSub, Nat.reduceMul, implies_true, Nat.reduceEqDiff, reduceIte, Nat.reduceAdd, Nat.reduceBEq, reduceCtorEq, al26, ap22_22, bs22_0, bs22_1, fa26_0, fa26_1, ix22, ld3, ld22, ld26, ln22, sn22, sl22, st26, big_eq, bne_self_eq_false, beq_self_eq_true, Bool.not_true, Bool.and_self, cast0]
    refine st_box q1 fun H2 q2 => ?_
    simp -implicitDefEqProofs only [kz, kk0, kk1, kk2, kk3, ↓two_true, ↓two_false, mkv, aggAt, Nat.reduceLeDiff, Nat.reduceSub, Nat.reduceMul, implies_true, Nat.reduceEqDiff, reduceIte, Nat.reduceAdd, Nat.reduceBEq, reduceCtorEq, al26, ap22_22, bs22_0, bs22_1, fa26_0, fa26_1, ix22, ld3, ld22, ld26, ln22, sn22, sl22, st26, big_eq, bne_self_eq_false, beq_self_eq_true, Bool.not_true, Bool.and_self, cast0, q2.rd 0 rfl]
    refine st_box q2 fun H3 q3 => ?_
    simp -implicitDefEqProofs only [kz, kk0, kk1, kk2, kk3, ↓two_true, ↓two_false, mkv, aggAt, Nat.reduceLeDiff, Nat.reduceSub, Nat.reduceMul, implies_true, Nat.reduceEqDiff, reduceIte, Nat.reduceAdd, Nat.reduceBEq, reduceCtorEq, al26, ap22_22, bs22_0, bs22_1, fa26_0, fa26_1, ix22, ld3, ld22, ld26, ln22, sn22, sl22, st26, big_eq, bne_self_eq_false, beq_self_eq_true, Bool.not_true, Bool.and_self, cast0, q3.rd 0 rfl, q3.rd 1 rfl]
    refine st_set q3 1 rfl fun H4 q4 => ?_
    simp only [List.set_cons_zero, List.set_cons_succ] at q4
    simp -implicitDefEqProofs only [kz, kk0, kk1, kk2, kk3, ↓two_true, ↓two_false, mkv, aggAt, Nat.reduceLeDiff, Nat.reduceSub, Nat.reduceMul, implies_true, Nat.reduceEqDiff, reduceIte, Nat.reduceAdd, Nat.reduceBEq, reduceCtorEq, al26, ap22_22, bs22_0, bs22_1, fa26_0, fa26_1, ix22, ld3, ld22, ld26, ln22, sn22, sl22, st26, big_eq, bne_self_eq_false, beq_self_eq_true, Bool.not_true, Bool.and_self, cast0, q4.rd 0 rfl, q4.rd 1 rfl]
    refine st_set q4 0 rfl fun H5 q5 => ?_
    simp only [List.set_cons_zero, List.set_cons_succ] at q5
    simp -implicitDefEqProofs only [kz, kk0, kk1, kk2, kk3, ↓two_true, ↓two_false, mkv, aggAt, Nat.reduceLeDiff, Nat.reduceSub, Nat.reduceMul, implies_true, Nat.reduceEqDiff, reduceIte, Nat.reduceAdd, Nat.reduceBEq, reduceCtorEq, al26, ap22_22, bs22_0, bs22_1, fa26_0, fa26_1, ix22, ld3, ld22, ld26, ln22, sn22, sl22, st26, big_eq, bne_self_eq_false, beq_self_eq_true, Bool.not_true, Bool.and_self, cast0, q5.rd 0 rfl, q5.rd 1 rfl]
    refine (implInner_ok (f := f) (g := g) (q5.ar 2 3 rfl rfl (by (try simp only [List.length_cons, List.length_nil, List.length_append, List.length_replicate, List.length_map, List.length_take, List.length_drop]); omega) (by (try simp only [List.length_cons, List.length_nil, List.length_append, List.length_replicate, List.length_map, List.length_take, List.length_drop]); omega)) (q5.ar 4 5 rfl rfl (by (try simp only [List.length_cons, List.length_nil, List.length_append, List.length_replicate, List.length_map, List.length_take, List.length_drop]); omega) (by (try simp only [List.length_cons, List.length_nil, List.length_append, List.length_replicate, List.length_map, List.length_take, List.length_drop]); omega)) ).mono ?_
    rintro _ H6 ⟨p5, p6, rfl, g2⟩
    obtain ⟨R1, hR1⟩ : ∃ R, innR f g sa da sb db = R := ⟨_, rfl⟩
    rw [hR1] at g2 ⊢
    have q6 := q5.join g2
    simp only [List.map_cons, List.map_nil, List.cons_append, List.nil_append] at q6
    obtain ⟨a5, c5, rfl⟩ := (q6.own 0 rfl).isSlice
    obtain ⟨a6, c6, rfl⟩ := (q6.own 1 rfl).isSlice
    have hRlm : R1.1.1.length ≤ 1048576 ∧ R1.1.2.length ≤ 1048576 := by rw [← hR1]; exact innR_lim
    simp -implicitDefEqProofs only [kz, kk0, kk1, kk2, kk3, ↓two_true, ↓two_false, mkv, aggAt, Nat.reduceLeDiff, Nat.reduceSub, Nat.reduceMul, implies_true, Nat.reduceEqDiff, reduceIte, Nat.reduceAdd, Nat.reduceBEq, reduceCtorEq, al26, ap22_22, bs22_0, bs22_1, fa26_0, fa26_1, ix22, ld3, ld22, ld26, ln22, sn22, sl22, st26, big_eq, bne_self_eq_false, beq_self_eq_true, Bool.not_true, Bool.and_self, cast0, q6.rd 2 rfl, q6.rd 3 rfl]
    refine st_box q6 fun H7 q7 => ?_
    simp -implicitDefEqProofs only [kz, kk0, kk1, kk2, kk3, ↓two_true, ↓two_false, mkv, aggAt, Nat.reduceLeDiff, Nat.reduceSub, Nat.reduceMul, implies_true, Nat.reduceEqDiff, reduceIte, Nat.reduceAdd, Nat.reduceBEq, reduceCtorEq, al26, ap22_22, bs22_0, bs22_1, fa26_0, fa26_1, ix22, ld3, ld22, ld26, ln22, sn22, sl22, st26, big_eq, bne_self_eq_false, beq_self_eq_true, Bool.not_true, Bool.and_self, cast0, q7.rd 0 rfl, q7.rd 3 rfl, q7.rd 4 rfl]
    refine st_set q7 0 rfl fun H8 q8 => ?_
    simp only [List.set_cons_zero, List.set_cons_succ] at q8
    simp -implicitDefEqProofs only [kz, kk0, kk1, kk2, kk3, ↓two_true, ↓two_false, mkv, aggAt, Nat.reduceLeDiff, Nat.reduceSub, Nat.reduceMul, implies_true, Nat.reduceEqDiff, reduceIte, Nat.reduceAdd, Nat.reduceBEq, reduceCtorEq, al26, ap22_22, bs22_0, bs22_1, fa26_0, fa26_1, ix22, ld3, ld22, ld26, ln22, sn22, sl22, st26, big_eq, bne_self_eq_false, beq_self_eq_true, Bool.not_true, Bool.and_self, cast0, q8.rd 0 rfl, q8.rd 3 rfl, q8.rd 4 rfl]
    refine (specInner_ok (f := f) (g := g) (q8.ar 5 6 rfl rfl (by (try simp only [List.length_cons, List.length_nil, List.length_append, List.length_replicate, List.length_map, List.length_take, List.length_drop]); omega) (by (try simp only [List.length_cons, List.length_nil, List.length_append, List.length_replicate, List.length_map, List.length_take, List.length_drop]); omega)) (q8.ar 7 8 rfl rfl (by (try simp only [List.length_cons, List.length_nil, List.length_append, List.length_replicate, List.length_map, List.length_take, List.length_drop]); omega) (by (try simp only [List.length_cons, List.length_nil, List.length_append, List.length_replicate, List.length_map, List.length_take, List.length_drop]); omega)) ).mono ?_
    rintro _ H9 ⟨p7, p8, rfl, g3⟩
    rw [hR1] at g3 ⊢
    have q9 := q8.join g3
    simp only [List.map_cons, List.map_nil, List.cons_append, List.nil_append] at q9
    obtain ⟨a7, c7, rfl⟩ := (q9.own 0 rfl).isSlice
    obtain ⟨a8, c8, rfl⟩ := (q9.own 1 rfl).isSlice
    simp -implicitDefEqProofs only [kz, kk0, kk1, kk2, kk3, ↓two_true, ↓two_false, mkv, aggAt, Nat.reduceLeDiff, Nat.reduceSub, Nat.reduceMul, implies_true, Nat.reduceEqDiff, reduceIte, Nat.reduceAdd, Nat.reduceBEq, reduceCtorEq, al26, ap22_22, bs22_0, bs22_1, fa26_0, fa26_1, ix22, ld3, ld22, ld26, ln22, sn22, sl22, st26, big_eq, bne_self_eq_false, beq_self_eq_true, Bool.not_true, Bool.and_self, cast0, q9.rd 2 rfl, q9.rd 5 rfl, q9.rd 6 rfl]
    refine st_box q9 fun H10 q10 => ?_
    simp -implicitDefEqProofs only [kz, kk0, kk1, kk2, kk3, ↓two_true, ↓two_false, mkv, aggAt, Nat.reduceLeDiff, Nat.reduceSub, Nat.reduceMul, implies_true, Nat.reduceEqDiff, reduceIte, Nat.reduceAdd, Nat.reduceBEq, reduceCtorEq, al26, ap22_22, bs22_0, bs22_1, fa26_0, fa26_1, ix22, ld3, ld22, ld26, ln22, sn22, sl22, st26, big_eq, bne_self_eq_false, beq_self_eq_true, Bool.not_true, Bool.and_self, cast0, q10.rd 0 rfl, q10.rd 3 rfl, q10.rd 6 rfl, q10.rd 7 rfl]
    refine st_set q10 0 rfl fun H11 q11 => ?_
    simp only [List.set_cons_zero, List.set_cons_succ] at q11
    simp -implicitDefEqProofs only [kz, kk0, kk1, kk2, kk3, ↓two_true, ↓two_false, mkv, aggAt, Nat.reduceLeDiff, Nat.reduceSub, Nat.reduceMul, implies_true, Nat.reduceEqDiff, reduceIte, Nat.reduceAdd, Nat.reduceBEq, reduceCtorEq, al26, ap22_22, bs22_0, bs22_1, fa26_0, fa26_1, ix22, ld3, ld22, ld26, ln22, sn22, sl22, st26, big_eq, bne_self_eq_false, beq_self_eq_true, Bool.not_true, Bool.and_self, cast0, q11.rd 0 rfl, q11.rd 3 rfl, q11.rd 6 rfl, q11.rd 7 rfl]
    refine two_intro (fun u2 => ?_) (fun u2 => ?_)
    ·
      have hR0 : R1.2 ≠ 0 := by simpa using u2
      have hRn2 := innR_err hR1 hR0
      try simp -implicitDefEqProofs only [kz, kk0, kk1, kk2, kk3, ↓two_true, ↓two_false, mkv, aggAt, Nat.reduceLeDiff, Nat.reduceSub, Nat.reduceMul, implies_true, Nat.reduceEqDiff, reduceIte, Nat.reduceAdd, Nat.reduceBEq, reduceCtorEq, al26, ap22_22, bs22_0, bs22_1, fa26_0, fa26_1, ix22, ld3, ld22, ld26, ln22, sn22, sl22, st26, big_eq, bne_self_eq_false, beq_self_eq_true, Bool.not_true, Bool.and_self, cast0, q11.rd 0 rfl, q11.rd 3 rfl, q11.rd 6 rfl, q11.rd 7 rfl]
      -- end2
      all_goals first | (rw [hRok]; done) | (rw [hRn2]; rfl) | (simp; done)
    ·
      have hR0 : R1.2 = 0 := by simpa using u2
      obtain ⟨v1, v2, v3, v4, hra, hmm, hsz, hC, hRe⟩ := innR_ok hR1 hR0
      obtain ⟨m, p, eA1, eA2, eA3, hm3, hp3, eA4⟩ := inn_a v1 hra.1 hra.2.1
      obtain ⟨n, r, eB1, eB2, eB3, hn3, hr3, eB4⟩ := inn_b v2 hra.2.2.1 hra.2.2.2
      have hmn : m = n := by rw [eA1, eB1] at hmm; omega
      subst hmn
      obtain ⟨hs1, hs2⟩ := inn_s eA4 eB4 hsz
      have hRok : arrOk R1.1.1 R1.1.2 = true := by rw [hRe]; exact inn_arrOk hsz
      rw [hs1] at hC hRe
      have hda3 := arrOk_len v1
      have hdb3 := arrOk_len v2
      have hna : da.all numOk = true := by unfold arrOk at v1; simp only [Bool.and_eq_true] at v1; exact v1.2
      have hnb : db.all numOk = true := by unfold arrOk at v2; simp only [Bool.and_eq_true] at v2; exact v2.2
      have hRd : R1.1.2 = innD f g sb da db (p * r) := by rw [hRe]
      have hRn : R1.1.2.length = p * r := by rw [hRd, innD_len]
      have hRl : R1.1.1.length ≤ 300 := by have h5 : R1.1.1 = innS sa sb := (by rw [hRe]); have h6 := (sizeI_ok hsz).1; rw [h5]; omega
      have hN : ∀ j, j < p * r → (innN f g sb da db j).2 = 0 := fun j hj => firstC_zero hC _ (List.mem_map.2 ⟨j, List.mem_range.2 hj, rfl⟩)
      have hlb : 0 < sb.length := by omega
      have eB5 : sb[0] = (m : Int) := by rw [← eB1, headD_get hlb]
      obtain ⟨b1, o1, cs1, ei1, fr1, fc1⟩ := ixI0 (q11.int 10 rfl) (List.getElem?_eq_getElem hlb)
      try simp -implicitDefEqProofs only [kz, kk0, kk1, kk2, kk3, ↓two_true, ↓two_false, mkv, aggAt, Nat.reduceLeDiff, Nat.reduceSub, Nat.reduceMul, implies_true, Nat.reduceEqDiff, reduceIte, Nat.reduceAdd, Nat.reduceBEq, reduceCtorEq, al26, ap22_22, bs22_0, bs22_1, fa26_0, fa26_1, ix22, ld3, ld22, ld26, ln22, sn22, sl22, st26, big_eq, bne_self_eq_false, beq_self_eq_true, Bool.not_true, Bool.and_self, cast0, eB5, ei1, fr1, fc1, q11.rd 0 rfl, q11.rd 3 rfl, q11.rd 6 rfl, q11.rd 7 rfl]
      refine two_intro (fun u3 => ?_) (fun u3 => ?_)
      ·
        have hb2 : 1 < sb.length := by have h5 := of_decide_eq_true u3; omega
        have eB6 : sb[1] = (r : Int) := by
          rcases eB4 with ⟨e, -⟩ | e
          · rw [e] at hb2; exact absurd hb2 (by simp)
          · simp [e]
        obtain ⟨b2, o2, cs2, ei2, fr2, fc2⟩ := ixI (q11.int 10 rfl) (i := 1) hb2
        rw [cast1] at ei2
        try simp -implicitDefEqProofs only [kz, kk0, kk1, kk2, kk3, ↓two_true, ↓two_false, mkv, aggAt, Nat.reduceLeDiff, Nat.reduceSub, Nat.reduceMul, implies_true, Nat.reduceEqDiff, reduceIte, Nat.reduceAdd, Nat.reduceBEq, reduceCtorEq, al26, ap22_22, bs22_0, bs22_1, fa26_0, fa26_1, ix22, ld3, ld22, ld26, ln22, sn22, sl22, st26, big_eq, bne_self_eq_false, beq_self_eq_true, Bool.not_true, Bool.and_self, cast0, eB5, eB6, ei1, fr1, fc1, ei2, fr2, fc2, q11.rd 0 rfl, q11.rd 3 rfl, q11.rd 6 rfl, q11.rd 7 rfl]
        refine rW_loopQ (σ := Nat) q11 [3, 4, 5, 6, 7, 11, 12] (fun x tm => tm 13 = .int .i64 x ∧ x ≤ R1.1.2.length) (fun x L => L) (fun x => R1.1.2.length - x) 0 ⟨rfl, Nat.zero_le _⟩ rfl ?_
        rintro i tm1 H12 ⟨lv1, lv2, lv3, lv4, lv5, lv6, lv7, -⟩ ⟨ki, hi⟩ q12
        simp -implicitDefEqProofs only [kz, kk0, kk1, kk2, kk3, ↓two_true, ↓two_false, mkv, aggAt, Nat.reduceLeDiff, Nat.reduceSub, Nat.reduceMul, implies_true, Nat.reduceEqDiff, reduceIte, Nat.reduceAdd, Nat.reduceBEq, reduceCtorEq, al26, ap22_22, bs22_0, bs22_1, fa26_0, fa26_1, ix22, ld3, ld22, ld26, ln22, sn22, sl22, st26, eB5, eB6] at lv1 lv2 lv3 lv4 lv5 lv6 lv7
        have wi : IntKind.i64.wrap ((i : Int) + 1) = ((i + 1 : Nat) : Int) := IntWalk.i64_in ((i : Int) + 1) (by omega)
        simp -implicitDefEqProofs only [kz, kk0, kk1, kk2, kk3, ↓two_true, ↓two_false, mkv, aggAt, Nat.reduceLeDiff, Nat.reduceSub, Nat.reduceMul, implies_true, Nat.reduceEqDiff, reduceIte, Nat.reduceAdd, Nat.reduceBEq, reduceCtorEq, al26, ap22_22, bs22_0, bs22_1, fa26_0, fa26_1, ix22, ld3, ld22, ld26, ln22, sn22, sl22, st26, big_eq, bne_self_eq_false, beq_self_eq_true, Bool.not_true, Bool.and_self, cast0, eB5, eB6, lv1, lv2, lv3, lv4, lv5, lv6, lv7, ki, wi, q12.rd 0 rfl, q12.rd 3 rfl, q12.rd 6 rfl, q12.rd 7 rfl]
        refine two_intro (fun u4 => ?_) (fun u4 => ?_)
        ·
          have hi2 : i < p * r := by have h5 := of_decide_eq_true u4; omega
          have hiR : i < R1.1.2.length := by omega
          have hr0 : 0 < r := Nat.pos_of_ne_zero (by first | omega | (rintro rfl; omega))
          have hiq : i / r < p := (Nat.div_lt_iff_lt_mul hr0).2 hi2
          have hir : i % r < r := Nat.mod_lt _ hr0
          have hqm : i / r * m + m ≤ p * m := by have := Nat.mul_le_mul_right m (show i / r + 1 ≤ p from hiq); rw [Nat.add_mul, Nat.one_mul] at this; exact this
          have hr0i : (r : Int) ≠ 0 := by omega
          have wq : (i : Int).tdiv (r : Int) = ((i / r : Nat) : Int) := by rw [Int.tdiv_eq_ediv_of_nonneg (by omega)]; rfl
          have wrm : (i : Int).tmod (r : Int) = ((i % r : Nat) : Int) := by rw [Int.tmod_eq_emod_of_nonneg (by omega)]; rfl
          have wq1 : IntKind.i64.wrap ((i / r : Nat) : Int) = ((i / r : Nat) : Int) := wrapN (by omega)
          have wq2 : IntKind.i64.wrap (((i / r : Nat) : Int) * (m : Int)) = ((i / r * m : Nat) : Int) := by rw [← Int.natCast_mul]; exact wrapN (by omega)
          have wq3 : IntKind.i64.wrap (((i / r * m : Nat) : Int) + (m : Int)) = ((i / r * m + m : Nat) : Int) := by rw [← Int.natCast_add]; exact wrapN (by omega)
          have wz : IntKind.i64.wrap ((0 : Int) + 0) = 0 := by decide
          have hrl : ((da.drop (i / r * m)).take (i / r * m + m - i / r * m)).length = m := by simp only [List.length_take, List.length_drop]; omega
          have hnl : ((da.drop (i / r * m)).take (i / r * m + m - i / r * m)).all numOk = true := slc_num hna
          have hkr : ∀ k, k < m → k * r + i % r < db.length := fun k hk => by rw [← eB3]; have := Nat.mul_le_mul_right r (show k + 1 ≤ m from hk); rw [Nat.add_mul, Nat.one_mul] at this; omega
          have hnc : (colL sb db r i m).all numOk = true := col_num hnb hkr
          have hNi := hN i hi2
          have hcell := inn_cell2 (f := f) (g := g) (db := db) eB1 eB2 (la := ((da.drop (i / r * m)).take (i / r * m + m - i / r * m))) (j := i) (by rw [Nat.add_sub_cancel_left]) hrl
          rw [hrl] at hcell
          have hRi : R1.1.2[i] = (innN f g sb da db i).1 := by simp only [hRd]; simp [innD]
          obtain ⟨hb1, hb2x, hb3⟩ := dot_both (show (dotR f g (fun k => ((da.drop (i / r * m)).take (i / r * m + m - i / r * m)).getD k 0) (fun k => (colL sb db r i m).getD k 0) m).2 = 0 by rw [hcell]; exact hNi)
          rw [hcell] at hb3
          have hred : reduceR f [(m : Int)] (dotL g (fun k => ((da.drop (i / r * m)).take (i / r * m + m - i / r * m)).getD k 0) (fun k => (colL sb db r i m).getD k 0) m) = (([], [(innN f g sb da db i).1]), 0) := by
            have h5 := reduceR_redN (s := f) (l := dotL g (fun k => ((da.drop (i / r * m)).take (i / r * m + m - i / r * m)).getD k 0) (fun k => (colL sb db r i m).getD k 0) m) v3 dotL_num (by rw [dotL_len]; omega)
            rw [dotL_len] at h5
            rw [h5]; unfold sclR; rw [if_pos hb2x, ← hb3]
          obtain ⟨a9, c9, ev1, hv1, -⟩ := IntRow.sl (P := Try.prog) (t := 22) (e := 3) (lo := (some (.int .i64 ((i / r * m : Nat) : Int)))) (hi := (some (.int .i64 ((i / r * m + m : Nat) : Int)))) (x := (i / r * m)) (y := (i / r * m + m)) Try.underlying22 (by kernel_rfl) (q12.int 9 rfl) rfl rfl (by omega) (by omega)
          try simp -implicitDefEqProofs only [kz, kk0, kk1, kk2, kk3, ↓two_true, ↓two_false, mkv, aggAt, Nat.reduceLeDiff, Nat.reduceSub, Nat.reduceMul, implies_true, Nat.reduceEqDiff, reduceIte, Nat.reduceAdd, Nat.reduceBEq, reduceCtorEq, al26, ap22_22, bs22_0, bs22_1, fa26_0, fa26_1, ix22, ld3, ld22, ld26, ln22, sn22, sl22, st26, big_eq, bne_self_eq_false, beq_self_eq_true, Bool.not_true, Bool.and_self, cast0, eB5, eB6, bin_quo hr0i, bin_rem hr0i, wq, wrm, wq1, wq2, wq3, wz, ev1, lv1, lv2, lv3, lv4, lv5, lv6, lv7, ki, wi, q12.rd 0 rfl, q12.rd 3 rfl, q12.rd 6 rfl, q12.rd 7 rfl]
          have hd1 := implVectorOf_m hv1 hrl (by omega) (arrOk_v hrl (by omega) hnl)
          refine hd1.mono ?_
          rintro _ H13 ⟨p9, p10, rfl, g4⟩
          have q13 := q12.join g4
          simp only [List.map_cons, List.map_nil, List.cons_append, List.nil_append] at q13
          obtain ⟨a10, c10, rfl⟩ := (q13.own 0 rfl).isSlice
          obtain ⟨a11, c11, rfl⟩ := (q13.own 1 rfl).isSlice
          simp -implicitDefEqProofs only [kz, kk0, kk1, kk2, kk3, ↓two_true, ↓two_false, mkv, aggAt, Nat.reduceLeDiff, Nat.reduceSub, Nat.reduceMul, implies_true, Nat.reduceEqDiff, reduceIte, Nat.reduceAdd, Nat.reduceBEq, reduceCtorEq, al26, ap22_22, bs22_0, bs22_1, fa26_0, fa26_1, ix22, ld3, ld22, ld26, ln22, sn22, sl22, st26, big_eq, bne_self_eq_false, beq_self_eq_true, Bool.not_true, Bool.and_self, cast0, eB5, eB6, bin_quo hr0i, bin_rem hr0i, wq, wrm, wq1, wq2, wq3, wz, ev1, lv1, lv2, lv3, lv4, lv5, lv6, lv7, ki, wi, q13.rd 2 rfl, q13.rd 5 rfl, q13.rd 8 rfl, q13.rd 9 rfl, q12.rd 0 rfl, q12.rd 3 rfl, q12.rd 6 rfl, q12.rd 7 rfl]
          refine st_box q13 fun H14 q14 => ?_
          simp -implicitDefEqProofs only [kz, kk0, kk1, kk2, kk3, ↓two_true, ↓two_false, mkv, aggAt, Nat.reduceLeDiff, Nat.reduceSub, Nat.reduceMul, implies_true, Nat.reduceEqDiff, reduceIte, Nat.reduceAdd, Nat.reduceBEq, reduceCtorEq, al26, ap22_22, bs22_0, bs22_1, fa26_0, fa26_1, ix22, ld3, ld22, ld26, ln22, sn22, sl22, st26, big_eq, bne_self_eq_false, beq_self_eq_true, Bool.not_true, Bool.and_self, cast0, eB5, eB6, bin_quo hr0i, bin_rem hr0i, wq, wrm, wq1, wq2, wq3, wz, ev1, lv1, lv2, lv3, lv4, lv5, lv6, lv7, ki, wi, q14.rd 0 rfl, q14.rd 3 rfl, q14.rd 6 rfl, q14.rd 9 rfl, q14.rd 10 rfl, q12.rd 0 rfl, q12.rd 3 rfl, q12.rd 6 rfl, q12.rd 7 rfl, q13.rd 2 rfl, q13.rd 5 rfl, q13.rd 8 rfl, q13.rd 9 rfl]
          refine st_set q14 0 rfl fun H15 q15 => ?_
          simp only [List.set_cons_zero, List.set_cons_succ] at q15
          simp -implicitDefEqProofs only [kz, kk0, kk1, kk2, kk3, ↓two_true, ↓two_false, mkv, aggAt, Nat.reduceLeDiff, Nat.reduceSub, Nat.reduceMul, implies_true, Nat.reduceEqDiff, reduceIte, Nat.reduceAdd, Nat.reduceBEq, reduceCtorEq, al26, ap22_22, bs22_0, bs22_1, fa26_0, fa26_1, ix22, ld3, ld22, ld26, ln22, sn22, sl22, st26, big_eq, bne_self_eq_false, beq_self_eq_true, Bool.not_true, Bool.and_self, cast0, eB5, eB6, bin_quo hr0i, bin_rem hr0i, wq, wrm, wq1, wq2, wq3, wz, ev1, lv1, lv2, lv3, lv4, lv5, lv6, lv7, ki, wi, q15.rd 0 rfl, q15.rd 3 rfl, q15.rd 6 rfl, q15.rd 9 rfl, q15.rd 10 rfl, q12.rd 0 rfl, q12.rd 3 rfl, q12.rd 6 rfl, q12.rd 7 rfl, q13.rd 2 rfl, q13.rd 5 rfl, q13.rd 8 rfl, q13.rd 9 rfl, q14.rd 0 rfl, q14.rd 3 rfl, q14.rd 6 rfl, q14.rd 9 rfl, q14.rd 10 rfl]
          try simp -implicitDefEqProofs only [kz, kk0, kk1, kk2, kk3, ↓two_true, ↓two_false, mkv, aggAt, Nat.reduceLeDiff, Nat.reduceSub, Nat.reduceMul, implies_true, Nat.reduceEqDiff, reduceIte, Nat.reduceAdd, Nat.reduceBEq, reduceCtorEq, al26, ap22_22, bs22_0, bs22_1, fa26_0, fa26_1, ix22, ld3, ld22, ld26, ln22, sn22, sl22, st26, big_eq, bne_self_eq_false, beq_self_eq_true, Bool.not_true, Bool.and_self, cast0, eB5, eB6, bin_quo hr0i, bin_rem hr0i, wq, wrm, wq1, wq2, wq3, wz, ev1, lv1, lv2, lv3, lv4, lv5, lv6, lv7, ki, wi, q15.rd 0 rfl, q15.rd 3 rfl, q15.rd 6 rfl, q15.rd 9 rfl, q15.rd 10 rfl]
          refine st_lit [] rfl rfl q15 fun H16 q16 => ?_
          simp -implicitDefEqProofs only [kz, kk0, kk1, kk2, kk3, ↓two_true, ↓two_false, mkv, aggAt, Nat.reduceLeDiff, Nat.reduceSub, Nat.reduceMul, implies_true, Nat.reduceEqDiff, reduceIte, Nat.reduceAdd, Nat.reduceBEq, reduceCtorEq, al26, ap22_22, bs22_0, bs22_1, fa26_0, fa26_1, ix22, ld3, ld22, ld26, ln22, sn22, sl22, st26, big_eq, bne_self_eq_false, beq_self_eq_true, Bool.not_true, Bool.and_self, cast0, eB5, eB6, bin_quo hr0i, bin_rem hr0i, wq, wrm, wq1, wq2, wq3, wz, ev1, lv1, lv2, lv3, lv4, lv5, lv6, lv7, ki, wi, q16.rd 1 rfl, q16.rd 4 rfl, q16.rd 7 rfl, q16.rd 10 rfl, q16.rd 11 rfl]
          refine rW_loopQ (σ := Nat × Value) q16 [2, 3, 4, 5, 6, 7, 11, 12, 13, 14, 15] (fun x tm => tm 17 = .int .i64 x.1 ∧ tm 16 = x.2 ∧ x.1 ≤ m) (fun x L => L.set 0 (.own (.row x.2 (colL sb db r i x.1)))) (fun x => m - x.1) (0, _) ⟨rfl, by first | rfl | assumption, Nat.zero_le _⟩ rfl ?_
          rintro ⟨k, ov⟩ tm2 H17 ⟨lv8, lv9, lv10, lv11, lv12, lv13, lv14, lv15, lv16, lv17, lv18, -⟩ ⟨kn, ko, hk⟩ q17
          simp -implicitDefEqProofs only [kz, kk0, kk1, kk2, kk3, ↓two_true, ↓two_false, mkv, aggAt, Nat.reduceLeDiff, Nat.reduceSub, Nat.reduceMul, implies_true, Nat.reduceEqDiff, reduceIte, Nat.reduceAdd, Nat.reduceBEq, reduceCtorEq, al26, ap22_22, bs22_0, bs22_1, fa26_0, fa26_1, ix22, ld3, ld22, ld26, ln22, sn22, sl22, st26, lv1, lv2, lv3, lv4, lv5, lv6, lv7, ki, wi, eB5, eB6, bin_quo hr0i, bin_rem hr0i, wq, wrm, wq1, wq2, wq3, wz, ev1] at lv8 lv9 lv10 lv11 lv12 lv13 lv14 lv15 lv16 lv17 lv18
          simp only [List.set_cons_zero, List.set_cons_succ] at q17
          simp only at kn ko hk
          obtain ⟨a12, c12, rfl⟩ := (q17.own 0 rfl).isSlice
          simp -implicitDefEqProofs only [kz, kk0, kk1, kk2, kk3, ↓two_true, ↓two_false, mkv, aggAt, Nat.reduceLeDiff, Nat.reduceSub, Nat.reduceMul, implies_true, Nat.reduceEqDiff, reduceIte, Nat.reduceAdd, Nat.reduceBEq, reduceCtorEq, al26, ap22_22, bs22_0, bs22_1, fa26_0, fa26_1, ix22, ld3, ld22, ld26, ln22, sn22, sl22, st26, big_eq, bne_self_eq_false, beq_self_eq_true, Bool.not_true, Bool.and_self, cast0, eB5, eB6, bin_quo hr0i, bin_rem hr0i, wq, wrm, wq1, wq2, wq3, wz, ev1, ki, wi, lv8, lv9, lv10, lv11, lv12, lv13, lv14, lv15, lv16, lv17, lv18, kn, ko, q17.rd 1 rfl, q17.rd 4 rfl, q17.rd 7 rfl, q17.rd 10 rfl, q17.rd 11 rfl]
          refine two_intro (fun u5 => ?_) (fun u5 => ?_)
          ·
            have hk2 : k < m := by simpa using u5
            have wk : IntKind.i64.wrap ((k : Int) + 1) = ((k + 1 : Nat) : Int) := IntWalk.i64_in ((k : Int) + 1) (by omega)
            have hkr2 := hkr k hk2
            have wm : IntKind.i64.wrap ((k : Int) * (r : Int)) = ((k * r : Nat) : Int) := by first | (rw [← Int.natCast_mul]; exact wrapN (by omega)) | (rw [Int.mul_one, Nat.mul_one]; exact wrapN (by omega))
            have wm2 : IntKind.i64.wrap (((k * r : Nat) : Int) + ((i % r : Nat) : Int)) = ((k * r + i % r : Nat) : Int) := by rw [← Int.natCast_add]; exact wrapN (by omega)
            have eC : db.getD (k * r + i % r) 0 = db[k * r + i % r] := getD_lt hkr2
            obtain ⟨b3, o3, cs3, ei3, fr3, fc3⟩ := ixI (q17.int 15 rfl) (i := k * r + i % r) hkr2
            try simp -implicitDefEqProofs only [kz, kk0, kk1, kk2, kk3, ↓two_true, ↓two_false, mkv, aggAt, Nat.reduceLeDiff, Nat.reduceSub, Nat.reduceMul, implies_true, Nat.reduceEqDiff, reduceIte, Nat.reduceAdd, Nat.reduceBEq, reduceCtorEq, al26, ap22_22, bs22_0, bs22_1, fa26_0, fa26_1, ix22, ld3, ld22, ld26, ln22, sn22, sl22, st26, big_eq, bne_self_eq_false, beq_self_eq_true, Bool.not_true, Bool.and_self, cast0, eB5, eB6, bin_quo hr0i, bin_rem hr0i, wq, wrm, wq1, wq2, wq3, wz, ev1, wk, wm, wm2, ei3, fr3, fc3, ki, wi, lv8, lv9, lv10, lv11, lv12, lv13, lv14, lv15, lv16, lv17, lv18, kn, ko, q17.rd 1 rfl, q17.rd 4 rfl, q17.rd 7 rfl, q17.rd 10 rfl, q17.rd 11 rfl]
            refine st_lit [(db)[k * r + i % r]] rfl rfl q17 fun H18 q18 => ?_
            simp -implicitDefEqProofs only [kz, kk0, kk1, kk2, kk3, ↓two_true, ↓two_false, mkv, aggAt, Nat.reduceLeDiff, Nat.reduceSub, Nat.reduceMul, implies_true, Nat.reduceEqDiff, reduceIte, Nat.reduceAdd, Nat.reduceBEq, reduceCtorEq, al26, ap22_22, bs22_0, bs22_1, fa26_0, fa26_1, ix22, ld3, ld22, ld26, ln22, sn22, sl22, st26, big_eq, bne_self_eq_false, beq_self_eq_true, Bool.not_true, Bool.and_self, cast0, eB5, eB6, bin_quo hr0i, bin_rem hr0i, wq, wrm, wq1, wq2, wq3, wz, ev1, wk, wm, wm2, ki, wi, lv8, lv9, lv10, lv11, lv12, lv13, lv14, lv15, lv16, lv17, lv18, kn, ko, q18.rd 2 rfl, q18.rd 5 rfl, q18.rd 8 rfl, q18.rd 11 rfl, q18.rd 12 rfl, q17.rd 1 rfl, q17.rd 4 rfl, q17.rd 7 rfl, q17.rd 10 rfl, q17.rd 11 rfl]
            refine st_app q18 1 rfl (q18.int 0 rfl) (by rw [colL_len]; simp; omega) fun a13 c13 H19 q19 => ?_
            simp only [List.set_cons_zero, List.set_cons_succ, List.length_nil, List.length_cons, Nat.zero_add, List.nil_append] at q19 ⊢
            simp -implicitDefEqProofs only [kz, kk0, kk1, kk2, kk3, ↓two_true, ↓two_false, mkv, aggAt, Nat.reduceLeDiff, Nat.reduceSub, Nat.reduceMul, implies_true, Nat.reduceEqDiff, reduceIte, Nat.reduceAdd, Nat.reduceBEq, reduceCtorEq, al26, ap22_22, bs22_0, bs22_1, fa26_0, fa26_1, ix22, ld3, ld22, ld26, ln22, sn22, sl22, st26, big_eq, bne_self_eq_false, beq_self_eq_true, Bool.not_true, Bool.and_self, cast0, eB5, eB6, bin_quo hr0i, bin_rem hr0i, wq, wrm, wq1, wq2, wq3, wz, ev1, wk, wm, wm2, ki, wi, lv8, lv9, lv10, lv11, lv12, lv13, lv14, lv15, lv16, lv17, lv18, kn, ko, q19.rd 2 rfl, q19.rd 5 rfl, q19.rd 8 rfl, q19.rd 11 rfl, q19.rd 12 rfl, q17.rd 1 rfl, q17.rd 4 rfl, q17.rd 7 rfl, q17.rd 10 rfl, q17.rd 11 rfl, q18.rd 2 rfl, q18.rd 5 rfl, q18.rd 8 rfl, q18.rd 11 rfl, q18.rd 12 rfl]
            try simp -implicitDefEqProofs only [kz, kk0, kk1, kk2, kk3, ↓two_true, ↓two_false, mkv, aggAt, Nat.reduceLeDiff, Nat.reduceSub, Nat.reduceMul, implies_true, Nat.reduceEqDiff, reduceIte, Nat.reduceAdd, Nat.reduceBEq, reduceCtorEq, al26, ap22_22, bs22_0, bs22_1, fa26_0, fa26_1, ix22, ld3, ld22, ld26, ln22, sn22, sl22, st26, big_eq, bne_self_eq_false, beq_self_eq_true, Bool.not_true, Bool.and_self, cast0, eB5, eB6, bin_quo hr0i, bin_rem hr0i, wq, wrm, wq1, wq2, wq3, wz, ev1, wk, wm, wm2, ki, wi, lv8, lv9, lv10, lv11, lv12, lv13, lv14, lv15, lv16, lv17, lv18, kn, ko, q19.rd 2 rfl, q19.rd 5 rfl, q19.rd 8 rfl, q19.rd 11 rfl, q19.rd 12 rfl]
            -- back loop2
            refine ⟨(k + 1, _), (by simp only; omega), ⟨rfl, rfl, rfl, rfl, rfl, rfl, rfl, rfl, rfl, rfl, rfl, trivial⟩, ⟨by first | rfl | simp, rfl, hk2⟩, ?_⟩
            simp only [List.set_cons_zero, List.set_cons_succ, colL_succ, eC]
            exact q19.pick [1, 2, 3, 4, 5, 6, 7, 8, 9, 10, 11, 12, 13, 14, 15, 16] _ rfl (by decide)
          ·
            have hkl : k = m := Nat.le_antisymm hk (Nat.not_lt.1 (by simpa using u5))
            rw [hkl] at ko q17
            try rw [hkl]
            try rw [hkl] at kn
            try simp -implicitDefEqProofs only [kz, kk0, kk1, kk2, kk3, ↓two_true, ↓two_false, mkv, aggAt, Nat.reduceLeDiff, Nat.reduceSub, Nat.reduceMul, implies_true, Nat.reduceEqDiff, reduceIte, Nat.reduceAdd, Nat.reduceBEq, reduceCtorEq, al26, ap22_22, bs22_0, bs22_1, fa26_0, fa26_1, ix22, ld3, ld22, ld26, ln22, sn22, sl22, st26, big_eq, bne_self_eq_false, beq_self_eq_true, Bool.not_true, Bool.and_self, cast0, eB5, eB6, bin_quo hr0i, bin_rem hr0i, wq, wrm, wq1, wq2, wq3, wz, ev1, ki, wi, lv8, lv9, lv10, lv11, lv12, lv13, lv14, lv15, lv16, lv17, lv18, kn, ko, q17.rd 1 rfl, q17.rd 4 rfl, q17.rd 7 rfl, q17.rd 10 rfl, q17.rd 11 rfl]
            have hd2 := implVectorOf_m (q17.int 0 rfl) colL_len (by omega) (arrOk_v colL_len (by omega) hnc)
            refine hd2.mono ?_
            rintro _ H20 ⟨p11, p12, rfl, g5⟩
            have q20 := q17.join g5
            simp only [List.map_cons, List.map_nil, List.cons_append, List.nil_append] at q20
            obtain ⟨a14, c14, rfl⟩ := (q20.own 0 rfl).isSlice
            obtain ⟨a15, c15, rfl⟩ := (q20.own 1 rfl).isSlice
            simp -implicitDefEqProofs only [kz, kk0, kk1, kk2, kk3, ↓two_true, ↓two_false, mkv, aggAt, Nat.reduceLeDiff, Nat.reduceSub, Nat.reduceMul, implies_true, Nat.reduceEqDiff, reduceIte, Nat.reduceAdd, Nat.reduceBEq, reduceCtorEq, al26, ap22_22, bs22_0, bs22_1, fa26_0, fa26_1, ix22, ld3, ld22, ld26, ln22, sn22, sl22, st26, big_eq, bne_self_eq_false, beq_self_eq_true, Bool.not_true, Bool.and_self, cast0, eB5, eB6, bin_quo hr0i, bin_rem hr0i, wq, wrm, wq1, wq2, wq3, wz, ev1, ki, wi, lv8, lv9, lv10, lv11, lv12, lv13, lv14, lv15, lv16, lv17, lv18, kn, ko, q20.rd 3 rfl, q20.rd 6 rfl, q20.rd 9 rfl, q20.rd 12 rfl, q20.rd 13 rfl]
            refine st_box q20 fun H21 q21 => ?_
            simp -implicitDefEqProofs only [kz, kk0, kk1, kk2, kk3, ↓two_true, ↓two_false, mkv, aggAt, Nat.reduceLeDiff, Nat.reduceSub, Nat.reduceMul, implies_true, Nat.reduceEqDiff, reduceIte, Nat.reduceAdd, Nat.reduceBEq, reduceCtorEq, al26, ap22_22, bs22_0, bs22_1, fa26_0, fa26_1, ix22, ld3, ld22, ld26, ln22, sn22, sl22, st26, big_eq, bne_self_eq_false, beq_self_eq_true, Bool.not_true, Bool.and_self, cast0, eB5, eB6, bin_quo hr0i, bin_rem hr0i, wq, wrm, wq1, wq2, wq3, wz, ev1, ki, wi, lv8, lv9, lv10, lv11, lv12, lv13, lv14, lv15, lv16, lv17, lv18, kn, ko, q21.rd 0 rfl, q21.rd 4 rfl, q21.rd 7 rfl, q21.rd 10 rfl, q21.rd 13 rfl, q21.rd 14 rfl]
            refine st_set q21 0 rfl fun H22 q22 => ?_
            simp only [List.set_cons_zero, List.set_cons_succ] at q22
            simp -implicitDefEqProofs only [kz, kk0, kk1, kk2, kk3, ↓two_true, ↓two_false, mkv, aggAt, Nat.reduceLeDiff, Nat.reduceSub, Nat.reduceMul, implies_true, Nat.reduceEqDiff, reduceIte, Nat.reduceAdd, Nat.reduceBEq, reduceCtorEq, al26, ap22_22, bs22_0, bs22_1, fa26_0, fa26_1, ix22, ld3, ld22, ld26, ln22, sn22, sl22, st26, big_eq, bne_self_eq_false, beq_self_eq_true, Bool.not_true, Bool.and_self, cast0, eB5, eB6, bin_quo hr0i, bin_rem hr0i, wq, wrm, wq1, wq2, wq3, wz, ev1, ki, wi, lv8, lv9, lv10, lv11, lv12, lv13, lv14, lv15, lv16, lv17, lv18, kn, ko, q22.rd 0 rfl, q22.rd 4 rfl, q22.rd 7 rfl, q22.rd 10 rfl, q22.rd 13 rfl, q22.rd 14 rfl]
            have hk1 := implEachTwo_ok (s := g) (q22.ar 5 6 rfl rfl (by simp) (by first | (rw [hrl]; omega) | (rw [colL_len]; omega))) (q22.ar 1 2 rfl rfl (by simp) (by first | (rw [hrl]; omega) | (rw [colL_len]; omega))) 
            rw [each2R_vec v4 (by omega) hrl colL_len hnl hnc hb1] at hk1
            refine hk1.mono ?_
            rintro _ H23 ⟨p13, p14, rfl, g6⟩
            have q23 := q22.join g6
            simp only [List.map_cons, List.map_nil, List.cons_append, List.nil_append] at q23
            obtain ⟨a16, c16, rfl⟩ := (q23.own 0 rfl).isSlice
            obtain ⟨a17, c17, rfl⟩ := (q23.own 1 rfl).isSlice
            simp -implicitDefEqProofs only [kz, kk0, kk1, kk2, kk3, ↓two_true, ↓two_false, mkv, aggAt, Nat.reduceLeDiff, Nat.reduceSub, Nat.reduceMul, implies_true, Nat.reduceEqDiff, reduceIte, Nat.reduceAdd, Nat.reduceBEq, reduceCtorEq, al26, ap22_22, bs22_0, bs22_1, fa26_0, fa26_1, ix22, ld3, ld22, ld26, ln22, sn22, sl22, st26, big_eq, bne_self_eq_false, beq_self_eq_true, Bool.not_true, Bool.and_self, cast0, eB5, eB6, bin_quo hr0i, bin_rem hr0i, wq, wrm, wq1, wq2, wq3, wz, ev1, ki, wi, lv8, lv9, lv10, lv11, lv12, lv13, lv14, lv15, lv16, lv17, lv18, kn, ko, q23.rd 2 rfl, q23.rd 6 rfl, q23.rd 9 rfl, q23.rd 12 rfl, q23.rd 15 rfl, q23.rd 16 rfl]
            refine st_box q23 fun H24 q24 => ?_
            simp -implicitDefEqProofs only [kz, kk0, kk1, kk2, kk3, ↓two_true, ↓two_false, mkv, aggAt, Nat.reduceLeDiff, Nat.reduceSub, Nat.reduceMul, implies_true, Nat.reduceEqDiff, reduceIte, Nat.reduceAdd, Nat.reduceBEq, reduceCtorEq, al26, ap22_22, bs22_0, bs22_1, fa26_0, fa26_1, ix22, ld3, ld22, ld26, ln22, sn22, sl22, st26, big_eq, bne_self_eq_false, beq_self_eq_true, Bool.not_true, Bool.and_self, cast0, eB5, eB6, bin_quo hr0i, bin_rem hr0i, wq, wrm, wq1, wq2, wq3, wz, ev1, ki, wi, lv8, lv9, lv10, lv11, lv12, lv13, lv14, lv15, lv16, lv17, lv18, kn, ko, q24.rd 0 rfl, q24.rd 3 rfl, q24.rd 7 rfl, q24.rd 10 rfl, q24.rd 13 rfl, q24.rd 16 rfl, q24.rd 17 rfl]
            refine st_set q24 0 rfl fun H25 q25 => ?_
            simp only [List.set_cons_zero, List.set_cons_succ] at q25
            simp -implicitDefEqProofs only [kz, kk0, kk1, kk2, kk3, ↓two_true, ↓two_false, mkv, aggAt, Nat.reduceLeDiff, Nat.reduceSub, Nat.reduceMul, implies_true, Nat.reduceEqDiff, reduceIte, Nat.reduceAdd, Nat.reduceBEq, reduceCtorEq, al26, ap22_22, bs22_0, bs22_1, fa26_0, fa26_1, ix22, ld3, ld22, ld26, ln22, sn22, sl22, st26, big_eq, bne_self_eq_false, beq_self_eq_true, Bool.not_true, Bool.and_self, cast0, eB5, eB6, bin_quo hr0i, bin_rem hr0i, wq, wrm, wq1, wq2, wq3, wz, ev1, ki, wi, lv8, lv9, lv10, lv11, lv12, lv13, lv14, lv15, lv16, lv17, lv18, kn, ko, q25.rd 0 rfl, q25.rd 3 rfl, q25.rd 7 rfl, q25.rd 10 rfl, q25.rd 13 rfl, q25.rd 16 rfl, q25.rd 17 rfl]
            have hk2 := implReduce_ok (s := f) (q25.ar 1 2 rfl rfl (by simp) (by rw [dotL_len]; omega)) (fun _ => (show 0 ≤ sizeI [] by decide)) 
            rw [hred] at hk2
            refine hk2.mono ?_
            rintro _ H26 ⟨p15, p16, rfl, g7⟩
            have q26 := q25.join g7
            simp only [List.map_cons, List.map_nil, List.cons_append, List.nil_append] at q26
            obtain ⟨a18, c18, rfl⟩ := (q26.own 0 rfl).isSlice
            obtain ⟨a19, c19, rfl⟩ := (q26.own 1 rfl).isSlice
            simp -implicitDefEqProofs only [kz, kk0, kk1, kk2, kk3, ↓two_true, ↓two_false, mkv, aggAt, Nat.reduceLeDiff, Nat.reduceSub, Nat.reduceMul, implies_true, Nat.reduceEqDiff, reduceIte, Nat.reduceAdd, Nat.reduceBEq, reduceCtorEq, al26, ap22_22, bs22_0, bs22_1, fa26_0, fa26_1, ix22, ld3, ld22, ld26, ln22, sn22, sl22, st26, big_eq, bne_self_eq_false, beq_self_eq_true, Bool.not_true, Bool.and_self, cast0, eB5, eB6, bin_quo hr0i, bin_rem hr0i, wq, wrm, wq1, wq2, wq3, wz, ev1, ki, wi, lv8, lv9, lv10, lv11, lv12, lv13, lv14, lv15, lv16, lv17, lv18, kn, ko, q26.rd 2 rfl, q26.rd 5 rfl, q26.rd 9 rfl, q26.rd 12 rfl, q26.rd 15 rfl, q26.rd 18 rfl, q26.rd 19 rfl]
            refine st_box q26 fun H27 q27 => ?_
            simp -implicitDefEqProofs only [kz, kk0, kk1, kk2, kk3, ↓two_true, ↓two_false, mkv, aggAt, Nat.reduceLeDiff, Nat.reduceSub, Nat.reduceMul, implies_true, Nat.reduceEqDiff, reduceIte, Nat.reduceAdd, Nat.reduceBEq, reduceCtorEq, al26, ap22_22, bs22_0, bs22_1, fa26_0, fa26_1, ix22, ld3, ld22, ld26, ln22, sn22, sl22, st26, big_eq, bne_self_eq_false, beq_self_eq_true, Bool.not_true, Bool.and_self, cast0, eB5, eB6, bin_quo hr0i, bin_rem hr0i, wq, wrm, wq1, wq2, wq3, wz, ev1, ki, wi, lv8, lv9, lv10, lv11, lv12, lv13, lv14, lv15, lv16, lv17, lv18, kn, ko, q27.rd 0 rfl, q27.rd 3 rfl, q27.rd 6 rfl, q27.rd 10 rfl, q27.rd 13 rfl, q27.rd 16 rfl, q27.rd 19 rfl, q27.rd 20 rfl]
            refine st_set q27 0 rfl fun H28 q28 => ?_
            simp only [List.set_cons_zero, List.set_cons_succ] at q28
            obtain ⟨b4, o4, cs4, ei4, fr4, fc4⟩ := ixI0 (q28.int 2 rfl) (List.getElem?_eq_getElem (by simp))
            simp only [List.length_cons, List.length_nil, Nat.zero_add, List.getElem_cons_zero] at ei4 fc4
            obtain ⟨b5, o5, cs5, ei5, fr5, fc5⟩ := ixI (q28.int 18 rfl) (i := i) hiR
            simp -implicitDefEqProofs only [kz, kk0, kk1, kk2, kk3, ↓two_true, ↓two_false, mkv, aggAt, Nat.reduceLeDiff, Nat.reduceSub, Nat.reduceMul, implies_true, Nat.reduceEqDiff, reduceIte, Nat.reduceAdd, Nat.reduceBEq, reduceCtorEq, al26, ap22_22, bs22_0, bs22_1, fa26_0, fa26_1, ix22, ld3, ld22, ld26, ln22, sn22, sl22, st26, big_eq, bne_self_eq_false, beq_self_eq_true, Bool.not_true, Bool.and_self, cast0, eB5, eB6, bin_quo hr0i, bin_rem hr0i, wq, wrm, wq1, wq2, wq3, wz, ev1, hRi, ei4, fr4, fc4, ei5, fr5, fc5, ki, wi, lv8, lv9, lv10, lv11, lv12, lv13, lv14, lv15, lv16, lv17, lv18, kn, ko, q28.rd 0 rfl, q28.rd 3 rfl, q28.rd 6 rfl, q28.rd 10 rfl, q28.rd 13 rfl, q28.rd 16 rfl, q28.rd 19 rfl, q28.rd 20 rfl]
            try simp -implicitDefEqProofs only [kz, kk0, kk1, kk2, kk3, ↓two_true, ↓two_false, mkv, aggAt, Nat.reduceLeDiff, Nat.reduceSub, Nat.reduceMul, implies_true, Nat.reduceEqDiff, reduceIte, Nat.reduceAdd, Nat.reduceBEq, reduceCtorEq, al26, ap22_22, bs22_0, bs22_1, fa26_0, fa26_1, ix22, ld3, ld22, ld26, ln22, sn22, sl22, st26, big_eq, bne_self_eq_false, beq_self_eq_true, Bool.not_true, Bool.and_self, cast0, eB5, eB6, bin_quo hr0i, bin_rem hr0i, wq, wrm, wq1, wq2, wq3, wz, ev1, hRi, ei4, fr4, fc4, ei5, fr5, fc5, ki, wi, lv8, lv9, lv10, lv11, lv12, lv13, lv14, lv15, lv16, lv17, lv18, kn, ko, q28.rd 0 rfl, q28.rd 3 rfl, q28.rd 6 rfl, q28.rd 10 rfl, q28.rd 13 rfl, q28.rd 16 rfl, q28.rd 19 rfl, q28.rd 20 rfl]
            -- back loop1
            refine ⟨i + 1, (by omega), ⟨(lv9.trans lv1.symm), (lv10.trans lv2.symm), (lv11.trans lv3.symm), (lv12.trans lv4.symm), (lv13.trans lv5.symm), (lv14.trans lv6.symm), (lv15.trans lv7.symm), trivial⟩, ⟨by first | rfl | simp, hiR⟩, ?_⟩
            exact q28.pick [13, 14, 15, 16, 17, 18, 19, 20, 21, 22, 23, 24] _ rfl (by decide)
        ·
          try simp -implicitDefEqProofs only [kz, kk0, kk1, kk2, kk3, ↓two_true, ↓two_false, mkv, aggAt, Nat.reduceLeDiff, Nat.reduceSub, Nat.reduceMul, implies_true, Nat.reduceEqDiff, reduceIte, Nat.reduceAdd, Nat.reduceBEq, reduceCtorEq, al26, ap22_22, bs22_0, bs22_1, fa26_0, fa26_1, ix22, ld3, ld22, ld26, ln22, sn22, sl22, st26, big_eq, bne_self_eq_false, beq_self_eq_true, Bool.not_true, Bool.and_self, cast0, eB5, eB6, lv1, lv2, lv3, lv4, lv5, lv6, lv7, ki, wi, q12.rd 0 rfl, q12.rd 3 rfl, q12.rd 6 rfl, q12.rd 7 rfl]
          refine (implOk_ar (q12.ar 4 5 rfl rfl (by (try simp only [List.length_cons, List.length_nil, List.length_append, List.length_replicate, List.length_map, List.length_take, List.length_drop]); omega) (by (try simp only [List.length_cons, List.length_nil, List.length_append, List.length_replicate, List.length_map, List.length_take, List.length_drop]); omega))).mono ?_
          rintro _ H29 ⟨rfl, he1⟩
          have q29 := q12.extd he1
          simp -implicitDefEqProofs only [kz, kk0, kk1, kk2, kk3, ↓two_true, ↓two_false, mkv, aggAt, Nat.reduceLeDiff, Nat.reduceSub, Nat.reduceMul, implies_true, Nat.reduceEqDiff, reduceIte, Nat.reduceAdd, Nat.reduceBEq, reduceCtorEq, al26, ap22_22, bs22_0, bs22_1, fa26_0, fa26_1, ix22, ld3, ld22, ld26, ln22, sn22, sl22, st26, big_eq, bne_self_eq_false, beq_self_eq_true, Bool.not_true, Bool.and_self, cast0, eB5, eB6, lv1, lv2, lv3, lv4, lv5, lv6, lv7, ki, wi, q29.rd 0 rfl, q29.rd 3 rfl, q29.rd 6 rfl, q29.rd 7 rfl]
          -- end3
          all_goals first | (rw [hRok]; done) | (rw [hRn2]; rfl) | (simp; done)
      ·
        obtain rfl : r = 1 := by
          rcases eB4 with ⟨-, e⟩ | e
          · exact e
          · exfalso; have h5 := of_decide_eq_false u3; rw [e] at h5; exact h5 (by simp)
        try simp -implicitDefEqProofs only [kz, kk0, kk1, kk2, kk3, ↓two_true, ↓two_false, mkv, aggAt, Nat.reduceLeDiff, Nat.reduceSub, Nat.reduceMul, implies_true, Nat.reduceEqDiff, reduceIte, Nat.reduceAdd, Nat.reduceBEq, reduceCtorEq, al26, ap22_22, bs22_0, bs22_1, fa26_0, fa26_1, ix22, ld3, ld22, ld26, ln22, sn22, sl22, st26, big_eq, bne_self_eq_false, beq_self_eq_true, Bool.not_true, Bool.and_self, cast0, eB5, ei1, fr1, fc1, q11.rd 0 rfl, q11.rd 3 rfl, q11.rd 6 rfl, q11.rd 7 rfl]
        refine rW_loopQ (σ := Nat) q11 [3, 4, 5, 6, 7, 11, 12] (fun x tm => tm 13 = .int .i64 x ∧ x ≤ R1.1.2.length) (fun x L => L) (fun x => R1.1.2.length - x) 0 ⟨rfl, Nat.zero_le _⟩ rfl ?_
        rintro i tm3 H30 ⟨lv19, lv20, lv21, lv22, lv23, lv24, lv25, -⟩ ⟨ki, hi⟩ q30
        simp -implicitDefEqProofs only [kz, kk0, kk1, kk2, kk3, ↓two_true, ↓two_false, mkv, aggAt, Nat.reduceLeDiff, Nat.reduceSub, Nat.reduceMul, implies_true, Nat.reduceEqDiff, reduceIte, Nat.reduceAdd, Nat.reduceBEq, reduceCtorEq, al26, ap22_22, bs22_0, bs22_1, fa26_0, fa26_1, ix22, ld3, ld22, ld26, ln22, sn22, sl22, st26, eB5] at lv19 lv20 lv21 lv22 lv23 lv24 lv25
        have wi : IntKind.i64.wrap ((i : Int) + 1) = ((i + 1 : Nat) : Int) := IntWalk.i64_in ((i : Int) + 1) (by omega)
        simp -implicitDefEqProofs only [kz, kk0, kk1, kk2, kk3, ↓two_true, ↓two_false, mkv, aggAt, Nat.reduceLeDiff, Nat.reduceSub, Nat.reduceMul, implies_true, Nat.reduceEqDiff, reduceIte, Nat.reduceAdd, Nat.reduceBEq, reduceCtorEq, al26, ap22_22, bs22_0, bs22_1, fa26_0, fa26_1, ix22, ld3, ld22, ld26, ln22, sn22, sl22, st26, big_eq, bne_self_eq_false, beq_self_eq_true, Bool.not_true, Bool.and_self, cast0, eB5, lv19, lv20, lv21, lv22, lv23, lv24, lv25, ki, wi, q30.rd 0 rfl, q30.rd 3 rfl, q30.rd 6 rfl, q30.rd 7 rfl]
        refine two_intro (fun u6 => ?_) (fun u6 => ?_)
        ·
          have hi2 : i < p * 1 := by have h5 := of_decide_eq_true u6; omega
          have hiR : i < R1.1.2.length := by omega
          have hr0 : 0 < 1 := Nat.pos_of_ne_zero (by first | omega | (rintro rfl; omega))
          have hiq : i / 1 < p := (Nat.div_lt_iff_lt_mul hr0).2 hi2
          have hir : i % 1 < 1 := Nat.mod_lt _ hr0
          have hqm : i / 1 * m + m ≤ p * m := by have := Nat.mul_le_mul_right m (show i / 1 + 1 ≤ p from hiq); rw [Nat.add_mul, Nat.one_mul] at this; exact this
          have hr0i : (1 : Int) ≠ 0 := by omega
          have wq : (i : Int).tdiv (1 : Int) = ((i / 1 : Nat) : Int) := by rw [Int.tdiv_eq_ediv_of_nonneg (by omega)]; rfl
          have wrm : (i : Int).tmod (1 : Int) = ((i % 1 : Nat) : Int) := by rw [Int.tmod_eq_emod_of_nonneg (by omega)]; rfl
          have wq1 : IntKind.i64.wrap ((i / 1 : Nat) : Int) = ((i / 1 : Nat) : Int) := wrapN (by omega)
          have wq2 : IntKind.i64.wrap (((i / 1 : Nat) : Int) * (m : Int)) = ((i / 1 * m : Nat) : Int) := by rw [← Int.natCast_mul]; exact wrapN (by omega)
          have wq3 : IntKind.i64.wrap (((i / 1 * m : Nat) : Int) + (m : Int)) = ((i / 1 * m + m : Nat) : Int) := by rw [← Int.natCast_add]; exact wrapN (by omega)
          have wz : IntKind.i64.wrap ((0 : Int) + 0) = 0 := by decide
          have hrl : ((da.drop (i / 1 * m)).take (i / 1 * m + m - i / 1 * m)).length = m := by simp only [List.length_take, List.length_drop]; omega
          have hnl : ((da.drop (i / 1 * m)).take (i / 1 * m + m - i / 1 * m)).all numOk = true := slc_num hna
          have hkr : ∀ k, k < m → k * 1 + i % 1 < db.length := fun k hk => by rw [← eB3]; have := Nat.mul_le_mul_right 1 (show k + 1 ≤ m from hk); rw [Nat.add_mul, Nat.one_mul] at this; omega
          have hnc : (colL sb db 1 i m).all numOk = true := col_num hnb hkr
          have hNi := hN i hi2
          have hcell := inn_cell2 (f := f) (g := g) (db := db) eB1 eB2 (la := ((da.drop (i / 1 * m)).take (i / 1 * m + m - i / 1 * m))) (j := i) (by rw [Nat.add_sub_cancel_left]) hrl
          rw [hrl] at hcell
          have hRi : R1.1.2[i] = (innN f g sb da db i).1 := by simp only [hRd]; simp [innD]
          obtain ⟨hb1, hb2x, hb3⟩ := dot_both (show (dotR f g (fun k => ((da.drop (i / 1 * m)).take (i / 1 * m + m - i / 1 * m)).getD k 0) (fun k => (colL sb db 1 i m).getD k 0) m).2 = 0 by rw [hcell]; exact hNi)
          rw [hcell] at hb3
          have hred : reduceR f [(m : Int)] (dotL g (fun k => ((da.drop (i / 1 * m)).take (i / 1 * m + m - i / 1 * m)).getD k 0) (fun k => (colL sb db 1 i m).getD k 0) m) = (([], [(innN f g sb da db i).1]), 0) := by
            have h5 := reduceR_redN (s := f) (l := dotL g (fun k => ((da.drop (i / 1 * m)).take (i / 1 * m + m - i / 1 * m)).getD k 0) (fun k => (colL sb db 1 i m).getD k 0) m) v3 dotL_num (by rw [dotL_len]; omega)
            rw [dotL_len] at h5
            rw [h5]; unfold sclR; rw [if_pos hb2x, ← hb3]
          obtain ⟨a20, c20, ev2, hv2, -⟩ := IntRow.sl (P := Try.prog) (t := 22) (e := 3) (lo := (some (.int .i64 ((i / 1 * m : Nat) : Int)))) (hi := (some (.int .i64 ((i / 1 * m + m : Nat) : Int)))) (x := (i / 1 * m)) (y := (i / 1 * m + m)) Try.underlying22 (by kernel_rfl) (q30.int 9 rfl) rfl rfl (by omega) (by omega)
          try simp -implicitDefEqProofs only [kz, kk0, kk1, kk2, kk3, ↓two_true, ↓two_false, mkv, aggAt, Nat.reduceLeDiff, Nat.reduceSub, Nat.reduceMul, implies_true, Nat.reduceEqDiff, reduceIte, Nat.reduceAdd, Nat.reduceBEq, reduceCtorEq, al26, ap22_22, bs22_0, bs22_1, fa26_0, fa26_1, ix22, ld3, ld22, ld26, ln22, sn22, sl22, st26, big_eq, bne_self_eq_false, beq_self_eq_true, Bool.not_true, Bool.and_self, cast0, eB5, bin_quo hr0i, bin_rem hr0i, wq, wrm, wq1, wq2, wq3, wz, ev2, lv19, lv20, lv21, lv22, lv23, lv24, lv25, ki, wi, q30.rd 0 rfl, q30.rd 3 rfl, q30.rd 6 rfl, q30.rd 7 rfl]
          have hd3 := implVectorOf_m hv2 hrl (by omega) (arrOk_v hrl (by omega) hnl)
          refine hd3.mono ?_
          rintro _ H31 ⟨p17, p18, rfl, g8⟩
          have q31 := q30.join g8
          simp only [List.map_cons, List.map_nil, List.cons_append, List.nil_append] at q31
          obtain ⟨a21, c21, rfl⟩ := (q31.own 0 rfl).isSlice
          obtain ⟨a22, c22, rfl⟩ := (q31.own 1 rfl).isSlice
          simp -implicitDefEqProofs only [kz, kk0, kk1, kk2, kk3, ↓two_true, ↓two_false, mkv, aggAt, Nat.reduceLeDiff, Nat.reduceSub, Nat.reduceMul, implies_true, Nat.reduceEqDiff, reduceIte, Nat.reduceAdd, Nat.reduceBEq, reduceCtorEq, al26, ap22_22, bs22_0, bs22_1, fa26_0, fa26_1, ix22, ld3, ld22, ld26, ln22, sn22, sl22, st26, big_eq, bne_self_eq_false, beq_self_eq_true, Bool.not_true, Bool.and_self, cast0, eB5, bin_quo hr0i, bin_rem hr0i, wq, wrm, wq1, wq2, wq3, wz, ev2, lv19, lv20, lv21, lv22, lv23, lv24, lv25, ki, wi, q31.rd 2 rfl, q31.rd 5 rfl, q31.rd 8 rfl, q31.rd 9 rfl, q30.rd 0 rfl, q30.rd 3 rfl, q30.rd 6 rfl, q30.rd 7 rfl]
          refine st_box q31 fun H32 q32 => ?_
          simp -implicitDefEqProofs only [kz, kk0, kk1, kk2, kk3, ↓two_true, ↓two_false, mkv, aggAt, Nat.reduceLeDiff, Nat.reduceSub, Nat.reduceMul, implies_true, Nat.reduceEqDiff, reduceIte, Nat.reduceAdd, Nat.reduceBEq, reduceCtorEq, al26, ap22_22, bs22_0, bs22_1, fa26_0, fa26_1, ix22, ld3, ld22, ld26, ln22, sn22, sl22, st26, big_eq, bne_self_eq_false, beq_self_eq_true, Bool.not_true, Bool.and_self, cast0, eB5, bin_quo hr0i, bin_rem hr0i, wq, wrm, wq1, wq2, wq3, wz, ev2, lv19, lv20, lv21, lv22, lv23, lv24, lv25, ki, wi, q32.rd 0 rfl, q32.rd 3 rfl, q32.rd 6 rfl, q32.rd 9 rfl, q32.rd 10 rfl, q30.rd 0 rfl, q30.rd 3 rfl, q30.rd 6 rfl, q30.rd 7 rfl, q31.rd 2 rfl, q31.rd 5 rfl, q31.rd 8 rfl, q31.rd 9 rfl]
          refine st_set q32 0 rfl fun H33 q33 => ?_
          simp only [List.set_cons_zero, List.set_cons_succ] at q33
          simp -implicitDefEqProofs only [kz, kk0, kk1, kk2, kk3, ↓two_true, ↓two_false, mkv, aggAt, Nat.reduceLeDiff, Nat.reduceSub, Nat.reduceMul, implies_true, Nat.reduceEqDiff, reduceIte, Nat.reduceAdd, Nat.reduceBEq, reduceCtorEq, al26, ap22_22, bs22_0, bs22_1, fa26_0, fa26_1, ix22, ld3, ld22, ld26, ln22, sn22, sl22, st26, big_eq, bne_self_eq_false, beq_self_eq_true, Bool.not_true, Bool.and_self, cast0, eB5, bin_quo hr0i, bin_rem hr0i, wq, wrm, wq1, wq2, wq3, wz, ev2, lv19, lv20, lv21, lv22, lv23, lv24, lv25, ki, wi, q33.rd 0 rfl, q33.rd 3 rfl, q33.rd 6 rfl, q33.rd 9 rfl, q33.rd 10 rfl, q30.rd 0 rfl, q30.rd 3 rfl, q30.rd 6 rfl, q30.rd 7 rfl, q31.rd 2 rfl, q31.rd 5 rfl, q31.rd 8 rfl, q31.rd 9 rfl, q32.rd 0 rfl, q32.rd 3 rfl, q32.rd 6 rfl, q32.rd 9 rfl, q32.rd 10 rfl]
          try simp -implicitDefEqProofs only [kz, kk0, kk1, kk2, kk3, ↓two_true, ↓two_false, mkv, aggAt, Nat.reduceLeDiff, Nat.reduceSub, Nat.reduceMul, implies_true, Nat.reduceEqDiff, reduceIte, Nat.reduceAdd, Nat.reduceBEq, reduceCtorEq, al26, ap22_22, bs22_0, bs22_1, fa26_0, fa26_1, ix22, ld3, ld22, ld26, ln22, sn22, sl22, st26, big_eq, bne_self_eq_false, beq_self_eq_true, Bool.not_true, Bool.and_self, cast0, eB5, bin_quo hr0i, bin_rem hr0i, wq, wrm, wq1, wq2, wq3, wz, ev2, lv19, lv20, lv21, lv22, lv23, lv24, lv25, ki, wi, q33.rd 0 rfl, q33.rd 3 rfl, q33.rd 6 rfl, q33.rd 9 rfl, q33.rd 10 rfl]
          refine st_lit [] rfl rfl q33 fun H34 q34 => ?_
          simp -implicitDefEqProofs only [kz, kk0, kk1, kk2, kk3, ↓two_true, ↓two_false, mkv, aggAt, Nat.reduceLeDiff, Nat.reduceSub, Nat.reduceMul, implies_true, Nat.reduceEqDiff, reduceIte, Nat.reduceAdd, Nat.reduceBEq, reduceCtorEq, al26, ap22_22, bs22_0, bs22_1, fa26_0, fa26_1, ix22, ld3, ld22, ld26, ln22, sn22, sl22, st26, big_eq, bne_self_eq_false, beq_self_eq_true, Bool.not_true, Bool.and_self, cast0, eB5, bin_quo hr0i, bin_rem hr0i, wq, wrm, wq1, wq2, wq3, wz, ev2, lv19, lv20, lv21, lv22, lv23, lv24, lv25, ki, wi, q34.rd 1 rfl, q34.rd 4 rfl, q34.rd 7 rfl, q34.rd 10 rfl, q34.rd 11 rfl]
          refine rW_loopQ (σ := Nat × Value) q34 [2, 3, 4, 5, 6, 7, 11, 12, 13, 14, 15] (fun x tm => tm 17 = .int .i64 x.1 ∧ tm 16 = x.2 ∧ x.1 ≤ m) (fun x L => L.set 0 (.own (.row x.2 (colL sb db 1 i x.1)))) (fun x => m - x.1) (0, _) ⟨rfl, by first | rfl | assumption, Nat.zero_le _⟩ rfl ?_
          rintro ⟨k, ov⟩ tm4 H35 ⟨lv26, lv27, lv28, lv29, lv30, lv31, lv32, lv33, lv34, lv35, lv36, -⟩ ⟨kn, ko, hk⟩ q35
          simp -implicitDefEqProofs only [kz, kk0, kk1, kk2, kk3, ↓two_true, ↓two_false, mkv, aggAt, Nat.reduceLeDiff, Nat.reduceSub, Nat.reduceMul, implies_true, Nat.reduceEqDiff, reduceIte, Nat.reduceAdd, Nat.reduceBEq, reduceCtorEq, al26, ap22_22, bs22_0, bs22_1, fa26_0, fa26_1, ix22, ld3, ld22, ld26, ln22, sn22, sl22, st26, lv19, lv20, lv21, lv22, lv23, lv24, lv25, ki, wi, eB5, bin_quo hr0i, bin_rem hr0i, wq, wrm, wq1, wq2, wq3, wz, ev2] at lv26 lv27 lv28 lv29 lv30 lv31 lv32 lv33 lv34 lv35 lv36
          simp only [List.set_cons_zero, List.set_cons_succ] at q35
          simp only at kn ko hk
          obtain ⟨a23, c23, rfl⟩ := (q35.own 0 rfl).isSlice
          simp -implicitDefEqProofs only [kz, kk0, kk1, kk2, kk3, ↓two_true, ↓two_false, mkv, aggAt, Nat.reduceLeDiff, Nat.reduceSub, Nat.reduceMul, implies_true, Nat.reduceEqDiff, reduceIte, Nat.reduceAdd, Nat.reduceBEq, reduceCtorEq, al26, ap22_22, bs22_0, bs22_1, fa26_0, fa26_1, ix22, ld3, ld22, ld26, ln22, sn22, sl22, st26, big_eq, bne_self_eq_false, beq_self_eq_true, Bool.not_true, Bool.and_self, cast0, eB5, bin_quo hr0i, bin_rem hr0i, wq, wrm, wq1, wq2, wq3, wz, ev2, ki, wi, lv26, lv27, lv28, lv29, lv30, lv31, lv32, lv33, lv34, lv35, lv36, kn, ko, q35.rd 1 rfl, q35.rd 4 rfl, q35.rd 7 rfl, q35.rd 10 rfl, q35.rd 11 rfl]
          refine two_intro (fun u7 => ?_) (fun u7 => ?_)
          ·
            have hk2 : k < m := by simpa using u7
            have wk : IntKind.i64.wrap ((k : Int) + 1) = ((k + 1 : Nat) : Int) := IntWalk.i64_in ((k : Int) + 1) (by omega)
            have hkr2 := hkr k hk2
            have wm : IntKind.i64.wrap ((k : Int) * (1 : Int)) = ((k * 1 : Nat) : Int) := by first | (rw [← Int.natCast_mul]; exact wrapN (by omega)) | (rw [Int.mul_one, Nat.mul_one]; exact wrapN (by omega))
            have wm2 : IntKind.i64.wrap (((k * 1 : Nat) : Int) + ((i % 1 : Nat) : Int)) = ((k * 1 + i % 1 : Nat) : Int) := by rw [← Int.natCast_add]; exact wrapN (by omega)
            have eC : db.getD (k * 1 + i % 1) 0 = db[k * 1 + i % 1] := getD_lt hkr2
            obtain ⟨b6, o6, cs6, ei6, fr6, fc6⟩ := ixI (q35.int 15 rfl) (i := k * 1 + i % 1) hkr2
            try simp -implicitDefEqProofs only [kz, kk0, kk1, kk2, kk3, ↓two_true, ↓two_false, mkv, aggAt, Nat.reduceLeDiff, Nat.reduceSub, Nat.reduceMul, implies_true, Nat.reduceEqDiff, reduceIte, Nat.reduceAdd, Nat.reduceBEq, reduceCtorEq, al26, ap22_22, bs22_0, bs22_1, fa26_0, fa26_1, ix22, ld3, ld22, ld26, ln22, sn22, sl22, st26, big_eq, bne_self_eq_false, beq_self_eq_true, Bool.not_true, Bool.and_self, cast0, eB5, bin_quo hr0i, bin_rem hr0i, wq, wrm, wq1, wq2, wq3, wz, ev2, wk, wm, wm2, ei6, fr6, fc6, ki, wi, lv26, lv27, lv28, lv29, lv30, lv31, lv32, lv33, lv34, lv35, lv36, kn, ko, q35.rd 1 rfl, q35.rd 4 rfl, q35.rd 7 rfl, q35.rd 10 rfl, q35.rd 11 rfl]
            refine st_lit [(db)[k * 1 + i % 1]] rfl rfl q35 fun H36 q36 => ?_
            simp -implicitDefEqProofs only [kz, kk0, kk1, kk2, kk3, ↓two_true, ↓two_false, mkv, aggAt, Nat.reduceLeDiff, Nat.reduceSub, Nat.reduceMul, implies_true, Nat.reduceEqDiff, reduceIte, Nat.reduceAdd, Nat.reduceBEq, reduceCtorEq, al26, ap22_22, bs22_0, bs22_1, fa26_0, fa26_1, ix22, ld3, ld22, ld26, ln22, sn22, sl22, st26, big_eq, bne_self_eq_false, beq_self_eq_true, Bool.not_true, Bool.and_self, cast0, eB5, bin_quo hr0i, bin_rem hr0i, wq, wrm, wq1, wq2, wq3, wz, ev2, wk, wm, wm2, ki, wi, lv26, lv27, lv28, lv29, lv30, lv31, lv32, lv33, lv34, lv35, lv36, kn, ko, q36.rd 2 rfl, q36.rd 5 rfl, q36.rd 8 rfl, q36.rd 11 rfl, q36.rd 12 rfl, q35.rd 1 rfl, q35.rd 4 rfl, q35.rd 7 rfl, q35.rd 10 rfl, q35.rd 11 rfl]
            refine st_app q36 1 rfl (q36.int 0 rfl) (by rw [colL_len]; simp; omega) fun a24 c24 H37 q37 => ?_
            simp only [List.set_cons_zero, List.set_cons_succ, List.length_nil, List.length_cons, Nat.zero_add, List.nil_append] at q37 ⊢
            simp -implicitDefEqProofs only [kz, kk0, kk1, kk2, kk3, ↓two_true, ↓two_false, mkv, aggAt, Nat.reduceLeDiff, Nat.reduceSub, Nat.reduceMul, implies_true, Nat.reduceEqDiff, reduceIte, Nat.reduceAdd, Nat.reduceBEq, reduceCtorEq, al26, ap22_22, bs22_0, bs22_1, fa26_0, fa26_1, ix22, ld3, ld22, ld26, ln22, sn22, sl22, st26, big_eq, bne_self_eq_false, beq_self_eq_true, Bool.not_true, Bool.and_self, cast0, eB5, bin_quo hr0i, bin_rem hr0i, wq, wrm, wq1, wq2, wq3, wz, ev2, wk, wm, wm2, ki, wi, lv26, lv27, lv28, lv29, lv30, lv31, lv32, lv33, lv34, lv35, lv36, kn, ko, q37.rd 2 rfl, q37.rd 5 rfl, q37.rd 8 rfl, q37.rd 11 rfl, q37.rd 12 rfl, q35.rd 1 rfl, q35.rd 4 rfl, q35.rd 7 rfl, q35.rd 10 rfl, q35.rd 11 rfl, q36.rd 2 rfl, q36.rd 5 rfl, q36.rd 8 rfl, q36.rd 11 rfl, q36.rd 12 rfl]
            try simp -implicitDefEqProofs only [kz, kk0, kk1, kk2, kk3, ↓two_true, ↓two_false, mkv, aggAt, Nat.reduceLeDiff, Nat.reduceSub, Nat.reduceMul, implies_true, Nat.reduceEqDiff, reduceIte, Nat.reduceAdd, Nat.reduceBEq, reduceCtorEq, al26, ap22_22, bs22_0, bs22_1, fa26_0, fa26_1, ix22, ld3, ld22, ld26, ln22, sn22, sl22, st26, big_eq, bne_self_eq_false, beq_self_eq_true, Bool.not_true, Bool.and_self, cast0, eB5, bin_quo hr0i, bin_rem hr0i, wq, wrm, wq1, wq2, wq3, wz, ev2, wk, wm, wm2, ki, wi, lv26, lv27, lv28, lv29, lv30, lv31, lv32, lv33, lv34, lv35, lv36, kn, ko, q37.rd 2 rfl, q37.rd 5 rfl, q37.rd 8 rfl, q37.rd 11 rfl, q37.rd 12 rfl]
            -- back loop2
            refine ⟨(k + 1, _), (by simp only; omega), ⟨rfl, rfl, rfl, rfl, rfl, rfl, rfl, rfl, rfl, rfl, rfl, trivial⟩, ⟨by first | rfl | simp, rfl, hk2⟩, ?_⟩
            simp only [List.set_cons_zero, List.set_cons_succ, colL_succ, eC]
            exact q37.pick [1, 2, 3, 4, 5, 6, 7, 8, 9, 10, 11, 12, 13, 14, 15, 16] _ rfl (by decide)
          ·
            have hkl : k = m := Nat.le_antisymm hk (Nat.not_lt.1 (by simpa using u7))
            rw [hkl] at ko q35
            try rw [hkl]
            try rw [hkl] at kn
            try simp -implicitDefEqProofs only [kz, kk0, kk1, kk2, kk3, ↓two_true, ↓two_false, mkv, aggAt, Nat.reduceLeDiff, Nat.reduceSub, Nat.reduceMul, implies_true, Nat.reduceEqDiff, reduceIte, Nat.reduceAdd, Nat.reduceBEq, reduceCtorEq, al26, ap22_22, bs22_0, bs22_1, fa26_0, fa26_1, ix22, ld3, ld22, ld26, ln22, sn22, sl22, st26, big_eq, bne_self_eq_false, beq_self_eq_true, Bool.not_true, Bool.and_self, cast0, eB5, bin_quo hr0i, bin_rem hr0i, wq, wrm, wq1, wq2, wq3, wz, ev2, ki, wi, lv26, lv27, lv28, lv29, lv30, lv31, lv32, lv33, lv34, lv35, lv36, kn, ko, q35.rd 1 rfl, q35.rd 4 rfl, q35.rd 7 rfl, q35.rd 10 rfl, q35.rd 11 rfl]
            have hd4 := implVectorOf_m (q35.int 0 rfl) colL_len (by omega) (arrOk_v colL_len (by omega) hnc)
            refine hd4.mono ?_
            rintro _ H38 ⟨p19, p20, rfl, g9⟩
            have q38 := q35.join g9
            simp only [List.map_cons, List.map_nil, List.cons_append, List.nil_append] at q38
            obtain ⟨a25, c25, rfl⟩ := (q38.own 0 rfl).isSlice
            obtain ⟨a26, c26, rfl⟩ := (q38.own 1 rfl).isSlice
            simp -implicitDefEqProofs only [kz, kk0, kk1, kk2, kk3, ↓two_true, ↓two_false, mkv, aggAt, Nat.reduceLeDiff, Nat.reduceSub, Nat.reduceMul, implies_true, Nat.reduceEqDiff, reduceIte, Nat.reduceAdd, Nat.reduceBEq, reduceCtorEq, al26, ap22_22, bs22_0, bs22_1, fa26_0, fa26_1, ix22, ld3, ld22, ld26, ln22, sn22, sl22, st26, big_eq, bne_self_eq_false, beq_self_eq_true, Bool.not_true, Bool.and_self, cast0, eB5, bin_quo hr0i, bin_rem hr0i, wq, wrm, wq1, wq2, wq3, wz, ev2, ki, wi, lv26, lv27, lv28, lv29, lv30, lv31, lv32, lv33, lv34, lv35, lv36, kn, ko, q38.rd 3 rfl, q38.rd 6 rfl, q38.rd 9 rfl, q38.rd 12 rfl, q38.rd 13 rfl]
            refine st_box q38 fun H39 q39 => ?_
            simp -implicitDefEqProofs only [kz, kk0, kk1, kk2, kk3, ↓two_true, ↓two_false, mkv, aggAt, Nat.reduceLeDiff, Nat.reduceSub, Nat.reduceMul, implies_true, Nat.reduceEqDiff, reduceIte, Nat.reduceAdd, Nat.reduceBEq, reduceCtorEq, al26, ap22_22, bs22_0, bs22_1, fa26_0, fa26_1, ix22, ld3, ld22, ld26, ln22, sn22, sl22, st26, big_eq, bne_self_eq_false, beq_self_eq_true, Bool.not_true, Bool.and_self, cast0, eB5, bin_quo hr0i, bin_rem hr0i, wq, wrm, wq1, wq2, wq3, wz, ev2, ki, wi, lv26, lv27, lv28, lv29, lv30, lv31, lv32, lv33, lv34, lv35, lv36, kn, ko, q39.rd 0 rfl, q39.rd 4 rfl, q39.rd 7 rfl, q39.rd 10 rfl, q39.rd 13 rfl, q39.rd 14 rfl]
            refine st_set q39 0 rfl fun H40 q40 => ?_
            simp only [List.set_cons_zero, List.set_cons_succ] at q40
            simp -implicitDefEqProofs only [kz, kk0, kk1, kk2, kk3, ↓two_true, ↓two_false, mkv, aggAt, Nat.reduceLeDiff, Nat.reduceSub, Nat.reduceMul, implies_true, Nat.reduceEqDiff, reduceIte, Nat.reduceAdd, Nat.reduceBEq, reduceCtorEq, al26, ap22_22, bs22_0, bs22_1, fa26_0, fa26_1, ix22, ld3, ld22, ld26, ln22, sn22, sl22, st26, big_eq, bne_self_eq_false, beq_self_eq_true, Bool.not_true, Bool.and_self, cast0, eB5, bin_quo hr0i, bin_rem hr0i, wq, wrm, wq1, wq2, wq3, wz, ev2, ki, wi, lv26, lv27, lv28, lv29, lv30, lv31, lv32, lv33, lv34, lv35, lv36, kn, ko, q40.rd 0 rfl, q40.rd 4 rfl, q40.rd 7 rfl, q40.rd 10 rfl, q40.rd 13 rfl, q40.rd 14 rfl]
            have hk3 := implEachTwo_ok (s := g) (q40.ar 5 6 rfl rfl (by simp) (by first | (rw [hrl]; omega) | (rw [colL_len]; omega))) (q40.ar 1 2 rfl rfl (by simp) (by first | (rw [hrl]; omega) | (rw [colL_len]; omega))) 
            rw [each2R_vec v4 (by omega) hrl colL_len hnl hnc hb1] at hk3
            refine hk3.mono ?_
            rintro _ H41 ⟨p21, p22, rfl, g10⟩
            have q41 := q40.join g10
            simp only [List.map_cons, List.map_nil, List.cons_append, List.nil_append] at q41
            obtain ⟨a27, c27, rfl⟩ := (q41.own 0 rfl).isSlice
            obtain ⟨a28, c28, rfl⟩ := (q41.own 1 rfl).isSlice
            simp -implicitDefEqProofs only [kz, kk0, kk1, kk2, kk3, ↓two_true, ↓two_false, mkv, aggAt, Nat.reduceLeDiff, Nat.reduceSub, Nat.reduceMul, implies_true, Nat.reduceEqDiff, reduceIte, Nat.reduceAdd, Nat.reduceBEq, reduceCtorEq, al26, ap22_22, bs22_0, bs22_1, fa26_0, fa26_1, ix22, ld3, ld22, ld26, ln22, sn22, sl22, st26, big_eq, bne_self_eq_false, beq_self_eq_true, Bool.not_true, Bool.and_self, cast0, eB5, bin_quo hr0i, bin_rem hr0i, wq, wrm, wq1, wq2, wq3, wz, ev2, ki, wi, lv26, lv27, lv28, lv29, lv30, lv31, lv32, lv33, lv34, lv35, lv36, kn, ko, q41.rd 2 rfl, q41.rd 6 rfl, q41.rd 9 rfl, q41.rd 12 rfl, q41.rd 15 rfl, q41.rd 16 rfl]
            refine st_box q41 fun H42 q42 => ?_
            simp -implicitDefEqProofs only [kz, kk0, kk1, kk2, kk3, ↓two_true, ↓two_false, mkv, aggAt, Nat.reduceLeDiff, Nat.reduceSub, Nat.reduceMul, implies_true, Nat.reduceEqDiff, reduceIte, Nat.reduceAdd, Nat.reduceBEq, reduceCtorEq, al26, ap22_22, bs22_0, bs22_1, fa26_0, fa26_1, ix22, ld3, ld22, ld26, ln22, sn22, sl22, st26, big_eq, bne_self_eq_false, beq_self_eq_true, Bool.not_true, Bool.and_self, cast0, eB5, bin_quo hr0i, bin_rem hr0i, wq, wrm, wq1, wq2, wq3, wz, ev2, ki, wi, lv26, lv27, lv28, lv29, lv30, lv31, lv32, lv33, lv34, lv35, lv36, kn, ko, q42.rd 0 rfl, q42.rd 3 rfl, q42.rd 7 rfl, q42.rd 10 rfl, q42.rd 13 rfl, q42.rd 16 rfl, q42.rd 17 rfl]
            refine st_set q42 0 rfl fun H43 q43 => ?_
            simp only [List.set_cons_zero, List.set_cons_succ] at q43
            simp -implicitDefEqProofs only [kz, kk0, kk1, kk2, kk3, ↓two_true, ↓two_false, mkv, aggAt, Nat.reduceLeDiff, Nat.reduceSub, Nat.reduceMul, implies_true, Nat.reduceEqDiff, reduceIte, Nat.reduceAdd, Nat.reduceBEq, reduceCtorEq, al26, ap22_22, bs22_0, bs22_1, fa26_0, fa26_1, ix22, ld3, ld22, ld26, ln22, sn22, sl22, st26, big_eq, bne_self_eq_false, beq_self_eq_true, Bool.not_true, Bool.and_self, cast0, eB5, bin_quo hr0i, bin_rem hr0i, wq, wrm, wq1, wq2, wq3, wz, ev2, ki, wi, lv26, lv27, lv28, lv29, lv30, lv31, lv32, lv33, lv34, lv35, lv36, kn, ko, q43.rd 0 rfl, q43.rd 3 rfl, q43.rd 7 rfl, q43.rd 10 rfl, q43.rd 13 rfl, q43.rd 16 rfl, q43.rd 17 rfl]
            have hk4 := implReduce_ok (s := f) (q43.ar 1 2 rfl rfl (by simp) (by rw [dotL_len]; omega)) (fun _ => (show 0 ≤ sizeI [] by decide)) 
            rw [hred] at hk4
            refine hk4.mono ?_
            rintro _ H44 ⟨p23, p24, rfl, g11⟩
            have q44 := q43.join g11
            simp only [List.map_cons, List.map_nil, List.cons_append, List.nil_append] at q44
            obtain ⟨a29, c29, rfl⟩ := (q44.own 0 rfl).isSlice
            obtain ⟨a30, c30, rfl⟩ := (q44.own 1 rfl).isSlice
            simp -implicitDefEqProofs only [kz, kk0, kk1, kk2, kk3, ↓two_true, ↓two_false, mkv, aggAt, Nat.reduceLeDiff, Nat.reduceSub, Nat.reduceMul, implies_true, Nat.reduceEqDiff, reduceIte, Nat.reduceAdd, Nat.reduceBEq, reduceCtorEq, al26, ap22_22, bs22_0, bs22_1, fa26_0, fa26_1, ix22, ld3, ld22, ld26, ln22, sn22, sl22, st26, big_eq, bne_self_eq_false, beq_self_eq_true, Bool.not_true, Bool.and_self, cast0, eB5, bin_quo hr0i, bin_rem hr0i, wq, wrm, wq1, wq2, wq3, wz, ev2, ki, wi, lv26, lv27, lv28, lv29, lv30, lv31, lv32, lv33, lv34, lv35, lv36, kn, ko, q44.rd 2 rfl, q44.rd 5 rfl, q44.rd 9 rfl, q44.rd 12 rfl, q44.rd 15 rfl, q44.rd 18 rfl, q44.rd 19 rfl]
            refine st_box q44 fun H45 q45 => ?_
            simp -implicitDefEqProofs only [kz, kk0, kk1, kk2, kk3, ↓two_true, ↓two_false, mkv, aggAt, Nat.reduceLeDiff, Nat.reduceSub, Nat.reduceMul, implies_true, Nat.reduceEqDiff, reduceIte, Nat.reduceAdd, Nat.reduceBEq, reduceCtorEq, al26, ap22_22, bs22_0, bs22_1, fa26_0, fa26_1, ix22, ld3, ld22, ld26, ln22, sn22, sl22, st26, big_eq, bne_self_eq_false, beq_self_eq_true, Bool.not_true, Bool.and_self, cast0, eB5, bin_quo hr0i, bin_rem hr0i, wq, wrm, wq1, wq2, wq3, wz, ev2, ki, wi, lv26, lv27, lv28, lv29, lv30, lv31, lv32, lv33, lv34, lv35, lv36, kn, ko, q45.rd 0 rfl, q45.rd 3 rfl, q45.rd 6 rfl, q45.rd 10 rfl, q45.rd 13 rfl, q45.rd 16 rfl, q45.rd 19 rfl, q45.rd 20 rfl]
            refine st_set q45 0 rfl fun H46 q46 => ?_
            simp only [List.set_cons_zero, List.set_cons_succ] at q46
            obtain ⟨b7, o7, cs7, ei7, fr7, fc7⟩ := ixI0 (q46.int 2 rfl) (List.getElem?_eq_getElem (by simp))
            simp only [List.length_cons, List.length_nil, Nat.zero_add, List.getElem_cons_zero] at ei7 fc7
            obtain ⟨b8, o8, cs8, ei8, fr8, fc8⟩ := ixI (q46.int 18 rfl) (i := i) hiR
            simp -implicitDefEqProofs only [kz, kk0, kk1, kk2, kk3, ↓two_true, ↓two_false, mkv, aggAt, Nat.reduceLeDiff, Nat.reduceSub, Nat.reduceMul, implies_true, Nat.reduceEqDiff, reduceIte, Nat.reduceAdd, Nat.reduceBEq, reduceCtorEq, al26, ap22_22, bs22_0, bs22_1, fa26_0, fa26_1, ix22, ld3, ld22, ld26, ln22, sn22, sl22, st26, big_eq, bne_self_eq_false, beq_self_eq_true, Bool.not_true, Bool.and_self, cast0, eB5, bin_quo hr0i, bin_rem hr0i, wq, wrm, wq1, wq2, wq3, wz, ev2, hRi, ei7, fr7, fc7, ei8, fr8, fc8, ki, wi, lv26, lv27, lv28, lv29, lv30, lv31, lv32, lv33, lv34, lv35, lv36, kn, ko, q46.rd 0 rfl, q46.rd 3 rfl, q46.rd 6 rfl, q46.rd 10 rfl, q46.rd 13 rfl, q46.rd 16 rfl, q46.rd 19 rfl, q46.rd 20 rfl]
            try simp -implicitDefEqProofs only [kz, kk0, kk1, kk2, kk3, ↓two_true, ↓two_false, mkv, aggAt, Nat.reduceLeDiff, Nat.reduceSub, Nat.reduceMul, implies_true, Nat.reduceEqDiff, reduceIte, Nat.reduceAdd, Nat.reduceBEq, reduceCtorEq, al26, ap22_22, bs22_0, bs22_1, fa26_0, fa26_1, ix22, ld3, ld22, ld26, ln22, sn22, sl22, st26, big_eq, bne_self_eq_false, beq_self_eq_true, Bool.not_true, Bool.and_self, cast0, eB5, bin_quo hr0i, bin_rem hr0i, wq, wrm, wq1, wq2, wq3, wz, ev2, hRi, ei7, fr7, fc7, ei8, fr8, fc8, ki, wi, lv26, lv27, lv28, lv29, lv30, lv31, lv32, lv33, lv34, lv35, lv36, kn, ko, q46.rd 0 rfl, q46.rd 3 rfl, q46.rd 6 rfl, q46.rd 10 rfl, q46.rd 13 rfl, q46.rd 16 rfl, q46.rd 19 rfl, q46.rd 20 rfl]
            -- back loop1
            refine ⟨i + 1, (by omega), ⟨(lv27.trans lv19.symm), (lv28.trans lv20.symm), (lv29.trans lv21.symm), (lv30.trans lv22.symm), (lv31.trans lv23.symm), (lv32.trans lv24.symm), (lv33.trans lv25.symm), trivial⟩, ⟨by first | rfl | simp, hiR⟩, ?_⟩
            exact q46.pick [13, 14, 15, 16, 17, 18, 19, 20, 21, 22, 23, 24] _ rfl (by decide)
        ·
          try simp -implicitDefEqProofs only [kz, kk0, kk1, kk2, kk3, ↓two_true, ↓two_false, mkv, aggAt, Nat.reduceLeDiff, Nat.reduceSub, Nat.reduceMul, implies_true, Nat.reduceEqDiff, reduceIte, Nat.reduceAdd, Nat.reduceBEq, reduceCtorEq, al26, ap22_22, bs22_0, bs22_1, fa26_0, fa26_1, ix22, ld3, ld22, ld26, ln22, sn22, sl22, st26, big_eq, bne_self_eq_false, beq_self_eq_true, Bool.not_true, Bool.and_self, cast0, eB5, lv19, lv20, lv21, lv22, lv23, lv24, lv25, ki, wi, q30.rd 0 rfl, q30.rd 3 rfl, q30.rd 6 rfl, q30.rd 7 rfl]
          refine (implOk_ar (q30.ar 4 5 rfl rfl (by (try simp only [List.length_cons, List.length_nil, List.length_append, List.length_replicate, List.length_map, List.length_take, List.length_drop]); omega) (by (try simp only [List.length_cons, List.length_nil, List.length_append, List.length_replicate, List.length_map, List.length_take, List.length_drop]); omega))).mono ?_
          rintro _ H47 ⟨rfl, he2⟩
          have q47 := q30.extd he2
          simp -implicitDefEqProofs only [kz, kk0, kk1, kk2, kk3, ↓two_true, ↓two_false, mkv, aggAt, Nat.reduceLeDiff, Nat.reduceSub, Nat.reduceMul, implies_true, Nat.reduceEqDiff, reduceIte, Nat.reduceAdd, Nat.reduceBEq, reduceCtorEq, al26, ap22_22, bs22_0, bs22_1, fa26_0, fa26_1, ix22, ld3, ld22, ld26, ln22, sn22, sl22, st26, big_eq, bne_self_eq_false, beq_self_eq_true, Bool.not_true, Bool.and_self, cast0, eB5, lv19, lv20, lv21, lv22, lv23, lv24, lv25, ki, wi, q47.rd 0 rfl, q47.rd 3 rfl, q47.rd 6 rfl, q47.rd 7 rfl]
          -- end4
          all_goals first | (rw [hRok]; done) | (rw [hRn2]; rfl) | (simp; done)

end Go.Proofs.Ytmlimgdpcoloiaa.AM
