/- What the functions answer, part 5. -/
import Derived.Test.YtmlimgdpcoloiaaP4
set_option linter.unusedVariables false
set_option linter.unusedSimpArgs false
set_option linter.defProp false
set_option maxRecDepth 100000
/- What the functions answer, part 5. -/
namespace Go.Proofs.Ytmlimgdpcoloiaa.AM
open Go Go.Proofs.Ytmlimgdpcoloiaa Go.Proofs
set_option maxHeartbeats 4000000 in
theorem law5 : LawA Try.prog 5 [35] := by
  intro H vs hro h
  obtain ⟨v, vs, rfl, hv, h2⟩ := h.cons
  obtain rfl := h2.nil
  obtain ⟨a0, n0, c0, rfl, hb⟩ := rpBytes hv Try.underlying35 Try.underlying5 (by kernel_rfl)
  clear hv h2 hro
  have q := (LX.nil (H := H))
  refine w5 ?_
  unfold k5
  simp -implicitDefEqProofs only [kz, kk0, kk1, kk2, kk3, ↓two_true, ↓two_false, mkv, aggAt, Nat.reduceLeDiff, Nat.reduceSub, Nat.reduceMul, implies_true, Nat.reduceEqDiff, reduceIte, Nat.reduceAdd, Nat.reduceBEq, reduceCtorEq, al26, fa26_0, fa26_1, ix22, ix39, ld3, ld22, ld26, ln22, ln39, st26, big_eq, bne_self_eq_false, beq_self_eq_true, Bool.not_true, Bool.and_self]
  refine two_intro (fun u1 => ?_) (fun u1 => ?_)
  ·
    try simp -implicitDefEqProofs only [kz, kk0, kk1, kk2, kk3, ↓two_true, ↓two_false, mkv, aggAt, Nat.reduceLeDiff, Nat.reduceSub, Nat.reduceMul, implies_true, Nat.reduceEqDiff, reduceIte, Nat.reduceAdd, Nat.reduceBEq, reduceCtorEq, al26, fa26_0, fa26_1, ix22, ix39, ld3, ld22, ld26, ln22, ln39, st26, big_eq, bne_self_eq_false, beq_self_eq_true, Bool.not_true, Bool.and_self]
    -- end1
    all_goals trivial
  ·
    have hn0 : n0 ≤ 1048576 := by simp at u1; omega
    try simp -implicitDefEqProofs only [kz, kk0, kk1, kk2, kk3, ↓two_true, ↓two_false, mkv, aggAt, Nat.reduceLeDiff, Nat.reduceSub, Nat.reduceMul, implies_true, Nat.reduceEqDiff, reduceIte, Nat.reduceAdd, Nat.reduceBEq, reduceCtorEq, al26, fa26_0, fa26_1, ix22, ix39, ld3, ld22, ld26, ln22, ln39, st26, big_eq, bne_self_eq_false, beq_self_eq_true, Bool.not_true, Bool.and_self]
    refine (DrawScan_ok (BRv.ext ⟨a0, n0, c0, rfl, hn0, hb⟩ q.ext)).mono ?_
    rintro _ H1 ⟨s, p1, p2, sa, da, rfl, g1, lsa, lda⟩
    have q1 := q.join g1
    simp only [List.map_cons, List.map_nil, List.cons_append, List.nil_append] at q1
    obtain ⟨a1, c1, rfl⟩ := (q1.own 0 rfl).isSlice
    obtain ⟨a2, c2, rfl⟩ := (q1.own 1 rfl).isSlice
    simp -implicitDefEqProofs only [kz, kk0, kk1, kk2, kk3, ↓two_true, ↓two_false, mkv, aggAt, Nat.reduceLeDiff, Nat.reduceSub, Nat.reduceMul, implies_true, Nat.reduceEqDiff, reduceIte, Nat.reduceAdd, Nat.reduceBEq, reduceCtorEq, al26, fa26_0, fa26_1, ix22, ix39, ld3, ld22, ld26, ln22, ln39, st26, big_eq, bne_self_eq_false, beq_self_eq_true, Bool.not_true, Bool.and_self]
    refine st_box q1 fun H2 q2 => ?_
    simp -implicitDefEqProofs only [kz, kk0, kk1, kk2, kk3, ↓two_true, ↓two_false, mkv, aggAt, Nat.reduceLeDiff, Nat.reduceSub, Nat.reduceMul, implies_true, Nat.reduceEqDiff, reduceIte, Nat.reduceAdd, Nat.reduceBEq, reduceCtorEq, al26, fa26_0, fa26_1, ix22, ix39, ld3, ld22, ld26, ln22, ln39, st26, big_eq, bne_self_eq_false, beq_self_eq_true, Bool.not_true, Bool.and_self, q2.rd 0 rfl]
    refine st_set q2 0 rfl fun H3 q3 => ?_
    simp only [List.set_cons_zero, List.set_cons_succ] at q3
    simp -implicitDefEqProofs only [kz, kk0, kk1, kk2, kk3, ↓two_true, ↓two_false, mkv, aggAt, Nat.reduceLeDiff, Nat.reduceSub, Nat.reduceMul, implies_true, Nat.reduceEqDiff, reduceIte, Nat.reduceAdd, Nat.reduceBEq, reduceCtorEq, al26, fa26_0, fa26_1, ix22, ix39, ld3, ld22, ld26, ln22, ln39, st26, big_eq, bne_self_eq_false, beq_self_eq_true, Bool.not_true, Bool.and_self, q3.rd 0 rfl]
    refine (implScan_ok (s := s) (q3.ar 1 2 rfl rfl (by (try simp only [List.length_cons, List.length_nil, List.length_append, List.length_replicate, List.length_map, List.length_take, List.length_drop]); omega) (by (try simp only [List.length_cons, List.length_nil, List.length_append, List.length_replicate, List.length_map, List.length_take, List.length_drop]); omega)) ).mono ?_
    rintro _ H4 ⟨p3, p4, rfl, g2⟩
    obtain ⟨R1, hR1⟩ : ∃ R, scanR s sa da = R := ⟨_, rfl⟩
    rw [hR1] at g2 ⊢
    have q4 := q3.join g2
    simp only [List.map_cons, List.map_nil, List.cons_append, List.nil_append] at q4
    obtain ⟨a3, c3, rfl⟩ := (q4.own 0 rfl).isSlice
    obtain ⟨a4, c4, rfl⟩ := (q4.own 1 rfl).isSlice
    have hRl : R1.1.1.length ≤ 1048576 ∧ R1.1.2.length ≤ 1048576 := by rw [← hR1]; exact scanR_lim
    simp -implicitDefEqProofs only [kz, kk0, kk1, kk2, kk3, ↓two_true, ↓two_false, mkv, aggAt, Nat.reduceLeDiff, Nat.reduceSub, Nat.reduceMul, implies_true, Nat.reduceEqDiff, reduceIte, Nat.reduceAdd, Nat.reduceBEq, reduceCtorEq, al26, fa26_0, fa26_1, ix22, ix39, ld3, ld22, ld26, ln22, ln39, st26, big_eq, bne_self_eq_false, beq_self_eq_true, Bool.not_true, Bool.and_self, q4.rd 2 rfl]
    refine st_box q4 fun H5 q5 => ?_
    simp -implicitDefEqProofs only [kz, kk0, kk1, kk2, kk3, ↓two_true, ↓two_false, mkv, aggAt, Nat.reduceLeDiff, Nat.reduceSub, Nat.reduceMul, implies_true, Nat.reduceEqDiff, reduceIte, Nat.reduceAdd, Nat.reduceBEq, reduceCtorEq, al26, fa26_0, fa26_1, ix22, ix39, ld3, ld22, ld26, ln22, ln39, st26, big_eq, bne_self_eq_false, beq_self_eq_true, Bool.not_true, Bool.and_self, q5.rd 0 rfl, q5.rd 3 rfl]
    refine st_set q5 0 rfl fun H6 q6 => ?_
    simp only [List.set_cons_zero, List.set_cons_succ] at q6
    simp -implicitDefEqProofs only [kz, kk0, kk1, kk2, kk3, ↓two_true, ↓two_false, mkv, aggAt, Nat.reduceLeDiff, Nat.reduceSub, Nat.reduceMul, implies_true, Nat.reduceEqDiff, reduceIte, Nat.reduceAdd, Nat.reduceBEq, reduceCtorEq, al26, fa26_0, fa26_1, ix22, ix39, ld3, ld22, ld26, ln22, ln39, st26, big_eq, bne_self_eq_false, beq_self_eq_true, Bool.not_true, Bool.and_self, q6.rd 0 rfl, q6.rd 3 rfl]
    refine (specScan_ok (s := s) (q6.ar 4 5 rfl rfl (by (try simp only [List.length_cons, List.length_nil, List.length_append, List.length_replicate, List.length_map, List.length_take, List.length_drop]); omega) (by (try simp only [List.length_cons, List.length_nil, List.length_append, List.length_replicate, List.length_map, List.length_take, List.length_drop]); omega)) ).mono ?_
    rintro _ H7 ⟨p5, p6, rfl, g3⟩
    rw [hR1] at g3 ⊢
    have q7 := q6.join g3
    simp only [List.map_cons, List.map_nil, List.cons_append, List.nil_append] at q7
    obtain ⟨a5, c5, rfl⟩ := (q7.own 0 rfl).isSlice
    obtain ⟨a6, c6, rfl⟩ := (q7.own 1 rfl).isSlice
    simp -implicitDefEqProofs only [kz, kk0, kk1, kk2, kk3, ↓two_true, ↓two_false, mkv, aggAt, Nat.reduceLeDiff, Nat.reduceSub, Nat.reduceMul, implies_true, Nat.reduceEqDiff, reduceIte, Nat.reduceAdd, Nat.reduceBEq, reduceCtorEq, al26, fa26_0, fa26_1, ix22, ix39, ld3, ld22, ld26, ln22, ln39, st26, big_eq, bne_self_eq_false, beq_self_eq_true, Bool.not_true, Bool.and_self, q7.rd 2 rfl, q7.rd 5 rfl]
    refine st_box q7 fun H8 q8 => ?_
    simp -implicitDefEqProofs only [kz, kk0, kk1, kk2, kk3, ↓two_true, ↓two_false, mkv, aggAt, Nat.reduceLeDiff, Nat.reduceSub, Nat.reduceMul, implies_true, Nat.reduceEqDiff, reduceIte, Nat.reduceAdd, Nat.reduceBEq, reduceCtorEq, al26, fa26_0, fa26_1, ix22, ix39, ld3, ld22, ld26, ln22, ln39, st26, big_eq, bne_self_eq_false, beq_self_eq_true, Bool.not_true, Bool.and_self, q8.rd 0 rfl, q8.rd 3 rfl, q8.rd 6 rfl]
    refine st_set q8 0 rfl fun H9 q9 => ?_
    simp only [List.set_cons_zero, List.set_cons_succ] at q9
    simp -implicitDefEqProofs only [kz, kk0, kk1, kk2, kk3, ↓two_true, ↓two_false, mkv, aggAt, Nat.reduceLeDiff, Nat.reduceSub, Nat.reduceMul, implies_true, Nat.reduceEqDiff, reduceIte, Nat.reduceAdd, Nat.reduceBEq, reduceCtorEq, al26, fa26_0, fa26_1, ix22, ix39, ld3, ld22, ld26, ln22, ln39, st26, big_eq, bne_self_eq_false, beq_self_eq_true, Bool.not_true, Bool.and_self, q9.rd 0 rfl, q9.rd 3 rfl, q9.rd 6 rfl]
    refine two_intro (fun u2 => ?_) (fun u2 => ?_)
    ·
      have hR0 : R1.2 ≠ 0 := by simpa using u2
      have hRn := scanR_err hR1 hR0
      try simp -implicitDefEqProofs only [kz, kk0, kk1, kk2, kk3, ↓two_true, ↓two_false, mkv, aggAt, Nat.reduceLeDiff, Nat.reduceSub, Nat.reduceMul, implies_true, Nat.reduceEqDiff, reduceIte, Nat.reduceAdd, Nat.reduceBEq, reduceCtorEq, al26, fa26_0, fa26_1, ix22, ix39, ld3, ld22, ld26, ln22, ln39, st26, big_eq, bne_self_eq_false, beq_self_eq_true, Bool.not_true, Bool.and_self, q9.rd 0 rfl, q9.rd 3 rfl, q9.rd 6 rfl]
      -- end2
      all_goals first | rfl | (rw [hRn]; rfl) | (simp [hRs]; done) | (simp [hRt1, hRt2]; done) | (have hRt := hTr htr; simp [hRt]; done) | (simp; done)
    ·
      have hR0 : R1.2 = 0 := by simpa using u2
      obtain ⟨va, vs, hTr, hGo⟩ := scanR_okS hR1 hR0
      try simp -implicitDefEqProofs only [kz, kk0, kk1, kk2, kk3, ↓two_true, ↓two_false, mkv, aggAt, Nat.reduceLeDiff, Nat.reduceSub, Nat.reduceMul, implies_true, Nat.reduceEqDiff, reduceIte, Nat.reduceAdd, Nat.reduceBEq, reduceCtorEq, al26, fa26_0, fa26_1, ix22, ix39, ld3, ld22, ld26, ln22, ln39, st26, big_eq, bne_self_eq_false, beq_self_eq_true, Bool.not_true, Bool.and_self, q9.rd 0 rfl, q9.rd 3 rfl, q9.rd 6 rfl]
      refine two_intro (fun u3 => ?_) (fun u3 => ?_)
      ·
        have htr : sa.length = 0 ∨ (rowsR sa da).length = 0 := .inl (by simpa using u3)
        try simp -implicitDefEqProofs only [kz, kk0, kk1, kk2, kk3, ↓two_true, ↓two_false, mkv, aggAt, Nat.reduceLeDiff, Nat.reduceSub, Nat.reduceMul, implies_true, Nat.reduceEqDiff, reduceIte, Nat.reduceAdd, Nat.reduceBEq, reduceCtorEq, al26, fa26_0, fa26_1, ix22, ix39, ld3, ld22, ld26, ln22, ln39, st26, big_eq, bne_self_eq_false, beq_self_eq_true, Bool.not_true, Bool.and_self, q9.rd 0 rfl, q9.rd 3 rfl, q9.rd 6 rfl]
        refine (sameArray_ok (q9.ar 7 8 rfl rfl (by (try simp only [List.length_cons, List.length_nil, List.length_append, List.length_replicate, List.length_map, List.length_take, List.length_drop]); omega) (by (try simp only [List.length_cons, List.length_nil, List.length_append, List.length_replicate, List.length_map, List.length_take, List.length_drop]); omega)) (q9.ar 4 5 rfl rfl (by (try simp only [List.length_cons, List.length_nil, List.length_append, List.length_replicate, List.length_map, List.length_take, List.length_drop]); omega) (by (try simp only [List.length_cons, List.length_nil, List.length_append, List.length_replicate, List.length_map, List.length_take, List.length_drop]); omega))).mono ?_
        rintro _ H10 ⟨rfl, he1⟩
        have q10 := q9.extd he1
        simp -implicitDefEqProofs only [kz, kk0, kk1, kk2, kk3, ↓two_true, ↓two_false, mkv, aggAt, Nat.reduceLeDiff, Nat.reduceSub, Nat.reduceMul, implies_true, Nat.reduceEqDiff, reduceIte, Nat.reduceAdd, Nat.reduceBEq, reduceCtorEq, al26, fa26_0, fa26_1, ix22, ix39, ld3, ld22, ld26, ln22, ln39, st26, big_eq, bne_self_eq_false, beq_self_eq_true, Bool.not_true, Bool.and_self, q10.rd 0 rfl, q10.rd 3 rfl, q10.rd 6 rfl]
        -- end3
        all_goals first | rfl | (rw [hRn]; rfl) | (simp [hRs]; done) | (simp [hRt1, hRt2]; done) | (have hRt := hTr htr; simp [hRt]; done) | (simp; done)
      ·
        have hne : sa.length ≠ 0 := by simpa using u3
        obtain ⟨m1, m2, m3⟩ := rowsR_lim va hne
        have hsa0 : 0 < sa.length := by omega
        have hsa3 : sa.length ≤ 3 := (sizeI_ok (by have := (arrOk_size va).1; omega)).1
        obtain ⟨b1, o1, cs1, ei1, fr1, fc1⟩ := ixI0 (q9.int 7 rfl) (List.getElem?_eq_getElem hsa0)
        try simp -implicitDefEqProofs only [kz, kk0, kk1, kk2, kk3, ↓two_true, ↓two_false, mkv, aggAt, Nat.reduceLeDiff, Nat.reduceSub, Nat.reduceMul, implies_true, Nat.reduceEqDiff, reduceIte, Nat.reduceAdd, Nat.reduceBEq, reduceCtorEq, al26, fa26_0, fa26_1, ix22, ix39, ld3, ld22, ld26, ln22, ln39, st26, big_eq, bne_self_eq_false, beq_self_eq_true, Bool.not_true, Bool.and_self, ei1, fr1, fc1, q9.rd 0 rfl, q9.rd 3 rfl, q9.rd 6 rfl]
        refine two_intro (fun u4 => ?_) (fun u4 => ?_)
        ·
          have hRt : R1 = ((sa, da), 0) := by
            first
            | exact hTr htr
            | (refine hTr (.inr ?_)
               have h5 : sa[0]'hsa0 = 0 := (by simpa using u4)
               rw [← headD_get hsa0] at h5
               omega)
          have hRt1 : R1.1.1 = sa := by rw [hRt]
          have hRt2 : R1.1.2 = da := by rw [hRt]
          try simp -implicitDefEqProofs only [kz, kk0, kk1, kk2, kk3, ↓two_true, ↓two_false, mkv, aggAt, Nat.reduceLeDiff, Nat.reduceSub, Nat.reduceMul, implies_true, Nat.reduceEqDiff, reduceIte, Nat.reduceAdd, Nat.reduceBEq, reduceCtorEq, al26, fa26_0, fa26_1, ix22, ix39, ld3, ld22, ld26, ln22, ln39, st26, big_eq, bne_self_eq_false, beq_self_eq_true, Bool.not_true, Bool.and_self, ei1, fr1, fc1, q9.rd 0 rfl, q9.rd 3 rfl, q9.rd 6 rfl]
          refine (sameArray_ok (q9.ar 7 8 rfl rfl (by (try simp only [List.length_cons, List.length_nil, List.length_append, List.length_replicate, List.length_map, List.length_take, List.length_drop]); omega) (by (try simp only [List.length_cons, List.length_nil, List.length_append, List.length_replicate, List.length_map, List.length_take, List.length_drop]); omega)) (q9.ar 4 5 rfl rfl (by (try simp only [List.length_cons, List.length_nil, List.length_append, List.length_replicate, List.length_map, List.length_take, List.length_drop]); omega) (by (try simp only [List.length_cons, List.length_nil, List.length_append, List.length_replicate, List.length_map, List.length_take, List.length_drop]); omega))).mono ?_
          rintro _ H11 ⟨rfl, he2⟩
          have q11 := q9.extd he2
          simp -implicitDefEqProofs only [kz, kk0, kk1, kk2, kk3, ↓two_true, ↓two_false, mkv, aggAt, Nat.reduceLeDiff, Nat.reduceSub, Nat.reduceMul, implies_true, Nat.reduceEqDiff, reduceIte, Nat.reduceAdd, Nat.reduceBEq, reduceCtorEq, al26, fa26_0, fa26_1, ix22, ix39, ld3, ld22, ld26, ln22, ln39, st26, big_eq, bne_self_eq_false, beq_self_eq_true, Bool.not_true, Bool.and_self, q11.rd 0 rfl, q11.rd 3 rfl, q11.rd 6 rfl]
          -- end4
          all_goals first | rfl | (rw [hRn]; rfl) | (simp [hRs]; done) | (simp [hRt1, hRt2]; done) | (have hRt := hTr htr; simp [hRt]; done) | (simp; done)
        ·
          have hnz : (rowsR sa da).length ≠ 0 := by
            have h5 : ¬ sa[0]'hsa0 = 0 := (by simpa using u4)
            rw [← headD_get hsa0] at h5
            omega
          have hn0p : 0 < (rowsR sa da).length := by omega
          obtain ⟨hz, hRe⟩ := hGo hne hnz
          obtain ⟨YS, hYS⟩ : ∃ x, scanL s (rowsR sa da) (rowsR sa da).length = x := ⟨_, rfl⟩
          have hYn : YS.length = (rowsR sa da).length := by rw [← hYS, scanL_len]
          have hYi : ∀ i (hi : i < YS.length), YS[i] = (redL s ((rowsR sa da).take (i + 1))).1 := fun i hi => by subst hYS; simp [scanL]
          rw [hYS] at hRe
          have hhd : sa = ((rowsR sa da).length : Int) :: sa.tail := by
            obtain ⟨x, tl, e⟩ := List.exists_cons_of_ne_nil (show sa ≠ [] by rintro rfl; exact hne rfl)
            rw [m2, e]; rfl
          have hRs : R1.1.1 = sa := by rw [hRe]; exact hhd.symm
          have zL : (redL s ((rowsR sa da).take (rowsR sa da).length)).2 = 0 := by
            have h5 := hz ((rowsR sa da).length - 1) (by omega)
            rw [Nat.sub_add_cancel (by omega)] at h5
            exact h5
          obtain ⟨ml, j1, j2, j3, j4, j5⟩ := redL_shape va hne (by omega) (Nat.le_refl _) zL
          rw [List.take_length] at zL j4 j5
          obtain ⟨RL, hRLd⟩ : ∃ x, redL s (rowsR sa da) = x := ⟨_, rfl⟩
          rw [hRLd] at zL j4 j5
          have lRL : RL.1.1.length ≤ 300 ∧ RL.1.2.length ≤ 300 := by rw [j4, j5]; exact ⟨by simp; omega, j2⟩
          have hRL : reduceR s sa da = RL := by
            unfold reduceR redR
            rw [va, vs]
            simp only [Bool.and_self, if_true]
            rw [if_neg hne, if_neg hnz, hRLd]
          obtain ⟨so1, so2⟩ := scan_ok (s := s) va hne hz hnz
          rw [hYS] at so1 so2
          have hYA : rowsA R1.1.1 R1.1.2 = YS := by
            unfold rowsA
            rw [hRe]
            simp only
            rw [so1, if_pos rfl]
            refine rows_flatS hYn j1 fun r hr => ?_
            obtain ⟨i, hi, e⟩ := List.mem_iff_getElem.1 hr
            have h6 := redL_shape va hne (k := i + 1) (by omega) (by omega) (hz i (by omega))
            obtain ⟨m7, g1, g2, g3, g4, g5⟩ := h6
            rw [← e, hYi i hi]
            exact ⟨g4, by omega⟩
          have hYl : YS[YS.length - 1]'(by omega) = RL.1 := by
            rw [hYi _ (by omega), show YS.length - 1 + 1 = (rowsR sa da).length by omega, List.take_length, hRLd]
          have hY0 : YS[0]'(by omega) = (rowsR sa da)[0]'hn0p := by
            rw [hYi 0 (by omega), show (rowsR sa da).take (0 + 1) = [(rowsR sa da)[0]'hn0p] by rw [List.take_succ_eq_append_getElem hn0p]; rfl]; rfl
          have lx0 : ((rowsR sa da)[0]'hn0p).1.length ≤ 300 ∧ ((rowsR sa da)[0]'hn0p).2.length ≤ 300 := by have h5 := m3 _ (List.getElem_mem hn0p); exact ⟨by omega, h5.2.2.2.1⟩
          have wln : IntKind.i64.wrap ((YS.length : Int) - 1) = ((YS.length - 1 : Nat) : Int) := by rw [IntWalk.i64_in _ (by omega)]; omega
          try simp -implicitDefEqProofs only [kz, kk0, kk1, kk2, kk3, ↓two_true, ↓two_false, mkv, aggAt, Nat.reduceLeDiff, Nat.reduceSub, Nat.reduceMul, implies_true, Nat.reduceEqDiff, reduceIte, Nat.reduceAdd, Nat.reduceBEq, reduceCtorEq, al26, fa26_0, fa26_1, ix22, ix39, ld3, ld22, ld26, ln22, ln39, st26, big_eq, bne_self_eq_false, beq_self_eq_true, Bool.not_true, Bool.and_self, wln, zL, ei1, fr1, fc1, q9.rd 0 rfl, q9.rd 3 rfl, q9.rd 6 rfl]
          refine (implRows_ok (q9.ar 7 8 rfl rfl (by (try simp only [List.length_cons, List.length_nil, List.length_append, List.length_replicate, List.length_map, List.length_take, List.length_drop]); omega) (by (try simp only [List.length_cons, List.length_nil, List.length_append, List.length_replicate, List.length_map, List.length_take, List.length_drop]); omega))).mono ?_
          rintro rv1 H12 ⟨⟨ys1, nw1, cv1⟩, he3⟩
          rw [show rowsA sa da = rowsR sa da by unfold rowsA; rw [va]; rfl] at nw1 cv1
          have q12 := q9.nrows nw1 cv1 he3
          obtain ⟨a7, c7, rfl, -⟩ := (q12.rowsF 0 rfl).1
          simp -implicitDefEqProofs only [kz, kk0, kk1, kk2, kk3, ↓two_true, ↓two_false, mkv, aggAt, Nat.reduceLeDiff, Nat.reduceSub, Nat.reduceMul, implies_true, Nat.reduceEqDiff, reduceIte, Nat.reduceAdd, Nat.reduceBEq, reduceCtorEq, al26, fa26_0, fa26_1, ix22, ix39, ld3, ld22, ld26, ln22, ln39, st26, big_eq, bne_self_eq_false, beq_self_eq_true, Bool.not_true, Bool.and_self, wln, zL, q12.rd 1 rfl, q12.rd 4 rfl, q12.rd 7 rfl, q9.rd 0 rfl, q9.rd 3 rfl, q9.rd 6 rfl]
          refine (implRows_ok (q12.ar 5 6 rfl rfl (by (try simp only [List.length_cons, List.length_nil, List.length_append, List.length_replicate, List.length_map, List.length_take, List.length_drop]); omega) (by (try simp only [List.length_cons, List.length_nil, List.length_append, List.length_replicate, List.length_map, List.length_take, List.length_drop]); omega))).mono ?_
          rintro rv2 H13 ⟨⟨ys2, nw2, cv2⟩, he4⟩
          rw [hYA] at nw2 cv2
          have q13 := q12.nrows nw2 cv2 he4
          obtain ⟨a8, c8, rfl, -⟩ := (q13.rowsF 0 rfl).1
          simp -implicitDefEqProofs only [kz, kk0, kk1, kk2, kk3, ↓two_true, ↓two_false, mkv, aggAt, Nat.reduceLeDiff, Nat.reduceSub, Nat.reduceMul, implies_true, Nat.reduceEqDiff, reduceIte, Nat.reduceAdd, Nat.reduceBEq, reduceCtorEq, al26, fa26_0, fa26_1, ix22, ix39, ld3, ld22, ld26, ln22, ln39, st26, big_eq, bne_self_eq_false, beq_self_eq_true, Bool.not_true, Bool.and_self, wln, zL, q13.rd 2 rfl, q13.rd 5 rfl, q13.rd 8 rfl, q9.rd 0 rfl, q9.rd 3 rfl, q9.rd 6 rfl, q12.rd 1 rfl, q12.rd 4 rfl, q12.rd 7 rfl]
          try simp -implicitDefEqProofs only [kz, kk0, kk1, kk2, kk3, ↓two_true, ↓two_false, mkv, aggAt, Nat.reduceLeDiff, Nat.reduceSub, Nat.reduceMul, implies_true, Nat.reduceEqDiff, reduceIte, Nat.reduceAdd, Nat.reduceBEq, reduceCtorEq, al26, fa26_0, fa26_1, ix22, ix39, ld3, ld22, ld26, ln22, ln39, st26, big_eq, bne_self_eq_false, beq_self_eq_true, Bool.not_true, Bool.and_self, wln, zL, q13.rd 2 rfl, q13.rd 5 rfl, q13.rd 8 rfl]
          refine (implReduce_ok (s := s) (q13.ar 9 10 rfl rfl (by (try simp only [List.length_cons, List.length_nil, List.length_append, List.length_replicate, List.length_map, List.length_take, List.length_drop]); omega) (by (try simp only [List.length_cons, List.length_nil, List.length_append, List.length_replicate, List.length_map, List.length_take, List.length_drop]); omega)) (fun h => absurd h hnz) ).mono ?_
          rintro _ H14 ⟨p7, p8, rfl, g4⟩
          rw [hRL] at g4 ⊢
          have q14 := q13.join g4
          simp only [List.map_cons, List.map_nil, List.cons_append, List.nil_append] at q14
          obtain ⟨a9, c9, rfl⟩ := (q14.own 0 rfl).isSlice
          obtain ⟨a10, c10, rfl⟩ := (q14.own 1 rfl).isSlice
          simp -implicitDefEqProofs only [kz, kk0, kk1, kk2, kk3, ↓two_true, ↓two_false, mkv, aggAt, Nat.reduceLeDiff, Nat.reduceSub, Nat.reduceMul, implies_true, Nat.reduceEqDiff, reduceIte, Nat.reduceAdd, Nat.reduceBEq, reduceCtorEq, al26, fa26_0, fa26_1, ix22, ix39, ld3, ld22, ld26, ln22, ln39, st26, big_eq, bne_self_eq_false, beq_self_eq_true, Bool.not_true, Bool.and_self, wln, zL, q14.rd 4 rfl, q14.rd 7 rfl, q14.rd 10 rfl]
          refine st_box q14 fun H15 q15 => ?_
          simp -implicitDefEqProofs only [kz, kk0, kk1, kk2, kk3, ↓two_true, ↓two_false, mkv, aggAt, Nat.reduceLeDiff, Nat.reduceSub, Nat.reduceMul, implies_true, Nat.reduceEqDiff, reduceIte, Nat.reduceAdd, Nat.reduceBEq, reduceCtorEq, al26, fa26_0, fa26_1, ix22, ix39, ld3, ld22, ld26, ln22, ln39, st26, big_eq, bne_self_eq_false, beq_self_eq_true, Bool.not_true, Bool.and_self, wln, zL, q15.rd 0 rfl, q15.rd 5 rfl, q15.rd 8 rfl, q15.rd 11 rfl]
          refine st_set q15 0 rfl fun H16 q16 => ?_
          simp only [List.set_cons_zero, List.set_cons_succ] at q16
          obtain ⟨b2, o2, cs2, a11, c11, a12, c12, ei2, fr2, fc2, fc3, q17⟩ := q16.elemA 3 rfl (k := YS.length - 1) (by omega)
          simp only [hYl] at fc2 fc3 q17
          simp -implicitDefEqProofs only [kz, kk0, kk1, kk2, kk3, ↓two_true, ↓two_false, mkv, aggAt, Nat.reduceLeDiff, Nat.reduceSub, Nat.reduceMul, implies_true, Nat.reduceEqDiff, reduceIte, Nat.reduceAdd, Nat.reduceBEq, reduceCtorEq, al26, fa26_0, fa26_1, ix22, ix39, ld3, ld22, ld26, ln22, ln39, st26, big_eq, bne_self_eq_false, beq_self_eq_true, Bool.not_true, Bool.and_self, wln, zL, ei2, fr2, fc2, fc3, ldA2 fc2 fc3, q17.rd 2 rfl, q17.rd 7 rfl, q17.rd 10 rfl, q17.rd 13 rfl, q16.rd 0 rfl, q16.rd 5 rfl, q16.rd 8 rfl, q16.rd 11 rfl]
          refine (sameArray_ok (q17.arf 0 1 rfl rfl (by omega) (by omega)) (q17.ar 3 4 rfl rfl (by (try simp only [List.length_cons, List.length_nil, List.length_append, List.length_replicate, List.length_map, List.length_take, List.length_drop]); omega) (by (try simp only [List.length_cons, List.length_nil, List.length_append, List.length_replicate, List.length_map, List.length_take, List.length_drop]); omega))).mono ?_
          rintro _ H17 ⟨rfl, he5⟩
          have q18 := q17.extd he5
          obtain ⟨b3, o3, cs3, a13, c13, a14, c14, ei3, fr3, fc4, fc5, q19⟩ := q18.elemA 6 rfl (k := 0) hn0p
          simp only [cast0, Nat.zero_mul, Nat.add_zero] at ei3 fc4 fc5
          obtain ⟨b4, o4, cs4, a15, c15, a16, c16, ei4, fr4, fc6, fc7, q20⟩ := q19.elemA 7 rfl (k := 0) (by omega)
          simp only [hY0] at fc6 fc7 q20
          simp only [cast0, Nat.zero_mul, Nat.add_zero] at ei4 fc6 fc7
          simp -implicitDefEqProofs only [kz, kk0, kk1, kk2, kk3, ↓two_true, ↓two_false, mkv, aggAt, Nat.reduceLeDiff, Nat.reduceSub, Nat.reduceMul, implies_true, Nat.reduceEqDiff, reduceIte, Nat.reduceAdd, Nat.reduceBEq, reduceCtorEq, al26, fa26_0, fa26_1, ix22, ix39, ld3, ld22, ld26, ln22, ln39, st26, big_eq, bne_self_eq_false, beq_self_eq_true, Bool.not_true, Bool.and_self, wln, zL, ei3, fr3, fc4, fc5, ldA2 fc4 fc5, ei4, fr4, fc6, fc7, ldA2 fc6 fc7, q20.rd 6 rfl, q20.rd 11 rfl, q20.rd 14 rfl, q20.rd 17 rfl, q16.rd 0 rfl, q16.rd 5 rfl, q16.rd 8 rfl, q16.rd 11 rfl, q17.rd 2 rfl, q17.rd 7 rfl, q17.rd 10 rfl, q17.rd 13 rfl, q18.rd 2 rfl, q18.rd 7 rfl, q18.rd 10 rfl, q18.rd 13 rfl, q19.rd 4 rfl, q19.rd 9 rfl, q19.rd 12 rfl, q19.rd 15 rfl]
          refine (sameArray_ok (q20.arf 2 3 rfl rfl (by omega) (by omega)) (q20.arf 0 1 rfl rfl (by omega) (by omega))).mono ?_
          rintro _ H18 ⟨rfl, he6⟩
          have q21 := q20.extd he6
          simp -implicitDefEqProofs only [kz, kk0, kk1, kk2, kk3, ↓two_true, ↓two_false, mkv, aggAt, Nat.reduceLeDiff, Nat.reduceSub, Nat.reduceMul, implies_true, Nat.reduceEqDiff, reduceIte, Nat.reduceAdd, Nat.reduceBEq, reduceCtorEq, al26, fa26_0, fa26_1, ix22, ix39, ld3, ld22, ld26, ln22, ln39, st26, big_eq, bne_self_eq_false, beq_self_eq_true, Bool.not_true, Bool.and_self, wln, zL, q21.rd 6 rfl, q21.rd 11 rfl, q21.rd 14 rfl, q21.rd 17 rfl, q16.rd 0 rfl, q16.rd 5 rfl, q16.rd 8 rfl, q16.rd 11 rfl, q17.rd 2 rfl, q17.rd 7 rfl, q17.rd 10 rfl, q17.rd 13 rfl, q18.rd 2 rfl, q18.rd 7 rfl, q18.rd 10 rfl, q18.rd 13 rfl, q19.rd 4 rfl, q19.rd 9 rfl, q19.rd 12 rfl, q19.rd 15 rfl, q20.rd 6 rfl, q20.rd 11 rfl, q20.rd 14 rfl, q20.rd 17 rfl]
          try simp -implicitDefEqProofs only [kz, kk0, kk1, kk2, kk3, ↓two_true, ↓two_false, mkv, aggAt, Nat.reduceLeDiff, Nat.reduceSub, Nat.reduceMul, implies_true, Nat.reduceEqDiff, reduceIte, Nat.reduceAdd, Nat.reduceBEq, reduceCtorEq, al26, fa26_0, fa26_1, ix22, ix39, ld3, ld22, ld26, ln22, ln39, st26, big_eq, bne_self_eq_false, beq_self_eq_true, Bool.not_true, Bool.and_self, wln, zL, q21.rd 6 rfl, q21.rd 11 rfl, q21.rd 14 rfl, q21.rd 17 rfl]
          refine (at_ok (i := 1) (BRv.ext ⟨a0, n0, c0, rfl, hn0, hb⟩ q21.ext) (by decide)).mono ?_
          rintro _ _ ⟨⟨x1, rfl, hx1, hx12⟩, rfl⟩
          obtain ⟨xn, rfl⟩ : ∃ xn : Nat, x1 = xn := ⟨x1.toNat, by omega⟩
          have hrl0 : ((rowsR sa da).length : Int) ≠ 0 := by omega
          have wrm : (xn : Int).tmod ((rowsR sa da).length : Int) = ((xn % (rowsR sa da).length : Nat) : Int) := by rw [Int.tmod_eq_emod_of_nonneg (by omega)]; rfl
          have hmod : xn % (rowsR sa da).length < (rowsR sa da).length := Nat.mod_lt _ (by omega)
          obtain ⟨k, hk⟩ : ∃ k : Nat, 1 + xn % (rowsR sa da).length = k := ⟨_, rfl⟩
          have hk1 : 1 ≤ k := by omega
          have hk2 : k ≤ (rowsR sa da).length := by omega
          have wk : IntKind.i64.wrap (1 + ((xn % (rowsR sa da).length : Nat) : Int)) = (k : Int) := by rw [IntWalk.i64_in _ (by omega)]; omega
          have wk1 : IntKind.i64.wrap ((k : Int) - 1) = ((k - 1 : Nat) : Int) := by rw [IntWalk.i64_in _ (by omega)]; omega
          have zk : (redL s ((rowsR sa da).take k)).2 = 0 := by
            have h5 := hz (k - 1) (by omega)
            rw [Nat.sub_add_cancel hk1] at h5
            exact h5
          obtain ⟨RK, hRKd⟩ : ∃ x, redL s ((rowsR sa da).take k) = x := ⟨_, rfl⟩
          have zRK : RK.2 = 0 := by rw [← hRKd]; exact zk
          obtain ⟨mk, k1, k2, k3, k4, k5⟩ := redL_shape va hne hk1 hk2 zk
          obtain ⟨tk1, tk2, tk3⟩ := take_ok va hne hk1 hk2
          have hTK : joinR ((rowsR sa da).take k) sa.tail = (((k : Int) :: sa.tail, flatD ((rowsR sa da).take k)), 0) := by
            unfold joinR; rw [List.length_take, Nat.min_eq_left hk2, if_pos tk1]
          have hX : rowsR ((k : Int) :: sa.tail) (flatD ((rowsR sa da).take k)) = (rowsR sa da).take k := rows_flatS (by rw [List.length_take]; omega) k1 fun r hr => k3 r (List.mem_of_mem_take hr)
          have hRK : reduceR s ((k : Int) :: sa.tail) (flatD ((rowsR sa da).take k)) = RK := by
            unfold reduceR redR
            rw [tk1, vs, hX, ← hRKd]
            simp only [Bool.and_self, if_true, List.length_cons, List.tail_cons]
            rw [if_neg (by omega), if_neg (by rw [List.length_take]; omega)]
          have hYk : YS[k - 1]'(by omega) = RK.1 := by
            rw [hYi (k - 1) (by omega), Nat.sub_add_cancel hk1, hRKd]
          have lRK : RK.1.1.length ≤ 300 ∧ RK.1.2.length ≤ 300 := by rw [← hRKd, k4, k5]; exact ⟨by simp; omega, k2⟩
          simp -implicitDefEqProofs only [kz, kk0, kk1, kk2, kk3, ↓two_true, ↓two_false, mkv, aggAt, Nat.reduceLeDiff, Nat.reduceSub, Nat.reduceMul, implies_true, Nat.reduceEqDiff, reduceIte, Nat.reduceAdd, Nat.reduceBEq, reduceCtorEq, al26, fa26_0, fa26_1, ix22, ix39, ld3, ld22, ld26, ln22, ln39, st26, big_eq, bne_self_eq_false, beq_self_eq_true, Bool.not_true, Bool.and_self, wln, zL, bin_rem hrl0, wrm, wk, wk1, zRK, q21.rd 6 rfl, q21.rd 11 rfl, q21.rd 14 rfl, q21.rd 17 rfl]
          refine (scalarOf_ok (x := (k : Int)) (numOk_iff.2 (by omega))).mono ?_
          rintro _ H19 ⟨sb1, rfl, g5⟩
          have q22 := q21.join g5
          simp only [List.map_cons, List.map_nil, List.cons_append, List.nil_append] at q22
          simp -implicitDefEqProofs only [kz, kk0, kk1, kk2, kk3, ↓two_true, ↓two_false, mkv, aggAt, Nat.reduceLeDiff, Nat.reduceSub, Nat.reduceMul, implies_true, Nat.reduceEqDiff, reduceIte, Nat.reduceAdd, Nat.reduceBEq, reduceCtorEq, al26, fa26_0, fa26_1, ix22, ix39, ld3, ld22, ld26, ln22, ln39, st26, big_eq, bne_self_eq_false, beq_self_eq_true, Bool.not_true, Bool.and_self, wln, zL, bin_rem hrl0, wrm, wk, wk1, zRK, q22.rd 7 rfl, q22.rd 12 rfl, q22.rd 15 rfl, q22.rd 18 rfl]
          refine st_box q22 fun H20 q23 => ?_
          simp -implicitDefEqProofs only [kz, kk0, kk1, kk2, kk3, ↓two_true, ↓two_false, mkv, aggAt, Nat.reduceLeDiff, Nat.reduceSub, Nat.reduceMul, implies_true, Nat.reduceEqDiff, reduceIte, Nat.reduceAdd, Nat.reduceBEq, reduceCtorEq, al26, fa26_0, fa26_1, ix22, ix39, ld3, ld22, ld26, ln22, ln39, st26, big_eq, bne_self_eq_false, beq_self_eq_true, Bool.not_true, Bool.and_self, wln, zL, bin_rem hrl0, wrm, wk, wk1, zRK, q23.rd 0 rfl, q23.rd 8 rfl, q23.rd 13 rfl, q23.rd 16 rfl, q23.rd 19 rfl]
          refine st_set q23 0 rfl fun H21 q24 => ?_
          simp only [List.set_cons_zero, List.set_cons_succ] at q24
          simp -implicitDefEqProofs only [kz, kk0, kk1, kk2, kk3, ↓two_true, ↓two_false, mkv, aggAt, Nat.reduceLeDiff, Nat.reduceSub, Nat.reduceMul, implies_true, Nat.reduceEqDiff, reduceIte, Nat.reduceAdd, Nat.reduceBEq, reduceCtorEq, al26, fa26_0, fa26_1, ix22, ix39, ld3, ld22, ld26, ln22, ln39, st26, big_eq, bne_self_eq_false, beq_self_eq_true, Bool.not_true, Bool.and_self, wln, zL, bin_rem hrl0, wrm, wk, wk1, zRK, q24.rd 0 rfl, q24.rd 8 rfl, q24.rd 13 rfl, q24.rd 16 rfl, q24.rd 19 rfl]
          have hk1 := implTake_k (k := k) (AR.mk (OwnRow.nil.int) (q24.int 1 rfl) (by (try simp only [List.length_cons, List.length_nil, List.length_append, List.length_replicate, List.length_map, List.length_take, List.length_drop]); omega) (by (try simp only [List.length_cons, List.length_nil, List.length_append, List.length_replicate, List.length_map, List.length_take, List.length_drop]); omega)) (q24.ar 20 21 rfl rfl (by (try simp only [List.length_cons, List.length_nil, List.length_append, List.length_replicate, List.length_map, List.length_take, List.length_drop]); omega) (by (try simp only [List.length_cons, List.length_nil, List.length_append, List.length_replicate, List.length_map, List.length_take, List.length_drop]); omega)) va hne hk1 hk2 
          rw [hTK] at hk1
          refine hk1.mono ?_
          rintro _ H22 ⟨p9, p10, rfl, g6⟩
          have q25 := q24.join g6
          simp only [List.map_cons, List.map_nil, List.cons_append, List.nil_append] at q25
          obtain ⟨a17, c17, rfl⟩ := (q25.own 0 rfl).isSlice
          obtain ⟨a18, c18, rfl⟩ := (q25.own 1 rfl).isSlice
          simp -implicitDefEqProofs only [kz, kk0, kk1, kk2, kk3, ↓two_true, ↓two_false, mkv, aggAt, Nat.reduceLeDiff, Nat.reduceSub, Nat.reduceMul, implies_true, Nat.reduceEqDiff, reduceIte, Nat.reduceAdd, Nat.reduceBEq, reduceCtorEq, al26, fa26_0, fa26_1, ix22, ix39, ld3, ld22, ld26, ln22, ln39, st26, big_eq, bne_self_eq_false, beq_self_eq_true, Bool.not_true, Bool.and_self, wln, zL, bin_rem hrl0, wrm, wk, wk1, zRK, q25.rd 2 rfl, q25.rd 10 rfl, q25.rd 15 rfl, q25.rd 18 rfl, q25.rd 21 rfl]
          refine st_box q25 fun H23 q26 => ?_
          simp -implicitDefEqProofs only [kz, kk0, kk1, kk2, kk3, ↓two_true, ↓two_false, mkv, aggAt, Nat.reduceLeDiff, Nat.reduceSub, Nat.reduceMul, implies_true, Nat.reduceEqDiff, reduceIte, Nat.reduceAdd, Nat.reduceBEq, reduceCtorEq, al26, fa26_0, fa26_1, ix22, ix39, ld3, ld22, ld26, ln22, ln39, st26, big_eq, bne_self_eq_false, beq_self_eq_true, Bool.not_true, Bool.and_self, wln, zL, bin_rem hrl0, wrm, wk, wk1, zRK, q26.rd 0 rfl, q26.rd 3 rfl, q26.rd 11 rfl, q26.rd 16 rfl, q26.rd 19 rfl, q26.rd 22 rfl]
          refine st_set q26 0 rfl fun H24 q27 => ?_
          simp only [List.set_cons_zero, List.set_cons_succ] at q27
          simp -implicitDefEqProofs only [kz, kk0, kk1, kk2, kk3, ↓two_true, ↓two_false, mkv, aggAt, Nat.reduceLeDiff, Nat.reduceSub, Nat.reduceMul, implies_true, Nat.reduceEqDiff, reduceIte, Nat.reduceAdd, Nat.reduceBEq, reduceCtorEq, al26, fa26_0, fa26_1, ix22, ix39, ld3, ld22, ld26, ln22, ln39, st26, big_eq, bne_self_eq_false, beq_self_eq_true, Bool.not_true, Bool.and_self, wln, zL, bin_rem hrl0, wrm, wk, wk1, zRK, q27.rd 0 rfl, q27.rd 3 rfl, q27.rd 11 rfl, q27.rd 16 rfl, q27.rd 19 rfl, q27.rd 22 rfl]
          refine (implReduce_ok (s := s) (q27.ar 1 2 rfl rfl (by simp; omega) (by omega)) (fun h => absurd h (by rw [hX, List.length_take]; omega)) ).mono ?_
          rintro _ H25 ⟨p11, p12, rfl, g7⟩
          rw [hRK] at g7 ⊢
          have q28 := q27.join g7
          simp only [List.map_cons, List.map_nil, List.cons_append, List.nil_append] at q28
          obtain ⟨a19, c19, rfl⟩ := (q28.own 0 rfl).isSlice
          obtain ⟨a20, c20, rfl⟩ := (q28.own 1 rfl).isSlice
          simp -implicitDefEqProofs only [kz, kk0, kk1, kk2, kk3, ↓two_true, ↓two_false, mkv, aggAt, Nat.reduceLeDiff, Nat.reduceSub, Nat.reduceMul, implies_true, Nat.reduceEqDiff, reduceIte, Nat.reduceAdd, Nat.reduceBEq, reduceCtorEq, al26, fa26_0, fa26_1, ix22, ix39, ld3, ld22, ld26, ln22, ln39, st26, big_eq, bne_self_eq_false, beq_self_eq_true, Bool.not_true, Bool.and_self, wln, zL, bin_rem hrl0, wrm, wk, wk1, zRK, q28.rd 2 rfl, q28.rd 5 rfl, q28.rd 13 rfl, q28.rd 18 rfl, q28.rd 21 rfl, q28.rd 24 rfl]
          refine st_box q28 fun H26 q29 => ?_
          simp -implicitDefEqProofs only [kz, kk0, kk1, kk2, kk3, ↓two_true, ↓two_false, mkv, aggAt, Nat.reduceLeDiff, Nat.reduceSub, Nat.reduceMul, implies_true, Nat.reduceEqDiff, reduceIte, Nat.reduceAdd, Nat.reduceBEq, reduceCtorEq, al26, fa26_0, fa26_1, ix22, ix39, ld3, ld22, ld26, ln22, ln39, st26, big_eq, bne_self_eq_false, beq_self_eq_true, Bool.not_true, Bool.and_self, wln, zL, bin_rem hrl0, wrm, wk, wk1, zRK, q29.rd 0 rfl, q29.rd 3 rfl, q29.rd 6 rfl, q29.rd 14 rfl, q29.rd 19 rfl, q29.rd 22 rfl, q29.rd 25 rfl]
          refine st_set q29 0 rfl fun H27 q30 => ?_
          simp only [List.set_cons_zero, List.set_cons_succ] at q30
          obtain ⟨b5, o5, cs5, a21, c21, a22, c22, ei5, fr5, fc8, fc9, q31⟩ := q30.elemA 17 rfl (k := k - 1) (by omega)
          simp only [hYk] at fc8 fc9 q31
          simp -implicitDefEqProofs only [kz, kk0, kk1, kk2, kk3, ↓two_true, ↓two_false, mkv, aggAt, Nat.reduceLeDiff, Nat.reduceSub, Nat.reduceMul, implies_true, Nat.reduceEqDiff, reduceIte, Nat.reduceAdd, Nat.reduceBEq, reduceCtorEq, al26, fa26_0, fa26_1, ix22, ix39, ld3, ld22, ld26, ln22, ln39, st26, big_eq, bne_self_eq_false, beq_self_eq_true, Bool.not_true, Bool.and_self, wln, zL, bin_rem hrl0, wrm, wk, wk1, zRK, ei5, fr5, fc8, fc9, ldA2 fc8 fc9, q31.rd 2 rfl, q31.rd 5 rfl, q31.rd 8 rfl, q31.rd 16 rfl, q31.rd 21 rfl, q31.rd 24 rfl, q31.rd 27 rfl, q30.rd 0 rfl, q30.rd 3 rfl, q30.rd 6 rfl, q30.rd 14 rfl, q30.rd 19 rfl, q30.rd 22 rfl, q30.rd 25 rfl]
          refine (sameArray_ok (q31.ar 3 4 rfl rfl (by (try simp only [List.length_cons, List.length_nil, List.length_append, List.length_replicate, List.length_map, List.length_take, List.length_drop]); omega) (by (try simp only [List.length_cons, List.length_nil, List.length_append, List.length_replicate, List.length_map, List.length_take, List.length_drop]); omega)) (q31.arf 0 1 rfl rfl (by omega) (by omega))).mono ?_
          rintro _ H28 ⟨rfl, he7⟩
          have q32 := q31.extd he7
          have es1 := fun Φ => (sameInts_ok (q32.int 28 rfl) (q32.int 25 rfl) (by (try simp only [List.length_cons, List.length_nil, List.length_append, List.length_replicate, List.length_map, List.length_take, List.length_drop]); omega)).eq0 (Φ := Φ)
          simp -implicitDefEqProofs only [kz, kk0, kk1, kk2, kk3, ↓two_true, ↓two_false, mkv, aggAt, Nat.reduceLeDiff, Nat.reduceSub, Nat.reduceMul, implies_true, Nat.reduceEqDiff, reduceIte, Nat.reduceAdd, Nat.reduceBEq, reduceCtorEq, al26, fa26_0, fa26_1, ix22, ix39, ld3, ld22, ld26, ln22, ln39, st26, big_eq, bne_self_eq_false, beq_self_eq_true, Bool.not_true, Bool.and_self, wln, zL, bin_rem hrl0, wrm, wk, wk1, zRK, es1, q32.rd 2 rfl, q32.rd 5 rfl, q32.rd 8 rfl, q32.rd 16 rfl, q32.rd 21 rfl, q32.rd 24 rfl, q32.rd 27 rfl, q30.rd 0 rfl, q30.rd 3 rfl, q30.rd 6 rfl, q30.rd 14 rfl, q30.rd 19 rfl, q30.rd 22 rfl, q30.rd 25 rfl, q31.rd 2 rfl, q31.rd 5 rfl, q31.rd 8 rfl, q31.rd 16 rfl, q31.rd 21 rfl, q31.rd 24 rfl, q31.rd 27 rfl]
          -- end5
          all_goals first | rfl | (rw [hRn]; rfl) | (simp [hRs]; done) | (simp [hRt1, hRt2]; done) | (have hRt := hTr htr; simp [hRt]; done) | (simp; done)

end Go.Proofs.Ytmlimgdpcoloiaa.AM
