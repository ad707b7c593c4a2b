/- What the functions answer, part 5. -/
import Derived.Test.YtdagncfnkenbfaaP4
set_option linter.unusedVariables false
set_option linter.unusedSimpArgs false
set_option linter.defProp false
set_option maxRecDepth 100000
/- What the functions answer, part 5. -/
namespace Go.Proofs.Ytdagncfnkenbfaa.AM
open Go Go.Proofs.Ytdagncfnkenbfaa Go.Proofs
set_option maxHeartbeats 4000000 in
theorem l9Line_step {N : Nat} (ih : LineC Try.prog 107 N) (io : LineC Try.prog 112 (N + 1)) : LineC Try.prog 107 (N + 1) := by
  intro cc H0 H L cb ta tc nt at' ts toks q hl h3 h4 hN hT
  have t0 := q.tc 0 1 rfl rfl rfl hl h3 h4
  have k0 : ∀ Φ, CallsA Try.prog 110 #[.pointer (some ⟨cb, 0, none⟩), .int .i64 0] H Φ = Φ (.int .i64 (tkK toks at')) H := fun Φ => l9Kind_eq (k := 0) t0 (by decide)
  have k1 : ∀ Φ, CallsA Try.prog 110 #[.pointer (some ⟨cb, 0, none⟩), .int .i64 1] H Φ = Φ (.int .i64 (tkK toks (at' + 1))) H := fun Φ => l9Kind_eq (k := 1) t0 (by decide)
  refine w107 ?_
  unfold k107
  by_cases hset : tkK toks at' = 2 ∧ tkK toks (at' + 1) = 6
  · obtain ⟨e2, e6⟩ := hset
    have b2 : (tkK toks at' == 2) = true := by rw [e2]; rfl
    have b6 : (tkK toks (at' + 1) == 6) = true := by rw [e6]; rfl
    have hin : at' + 1 < nt := by have := tkK_in (l := toks) (i := at' + 1) (by omega); omega
    have hv := tok_all hT (i := at') (by omega)
    have hnv : inB (tkV toks at') 0 25 = true := by
      rw [e2] at hv
      simpa [tokOk] using hv
    obtain ⟨f, g⟩ := q.ft 1 rfl
    obtain ⟨b, o, cs, rfl, rfl, hrd, c0, c1⟩ := tok_at f g hl (i := at') (by omega)
    have g1 : (0 : Int) ≤ (at' : Int) ∧ (at' : Int) < (nt : Int) := by omega
    have w1 : IntKind.i64.wrap ((at' : Int) + 2) = ((at' + 2 : Nat) : Int) := by rw [IntWalk.i64_in _ (by omega)]; omega
    simp -implicitDefEqProofs only [kz, kk0, kk1, kk2, kk3, ↓two_true, ↓two_false, mkv, aggAt, Nat.reduceLeDiff, Nat.reduceSub, Nat.reduceMul, implies_true, Nat.reduceEqDiff, reduceIte, Nat.reduceAdd, Nat.reduceBEq, reduceCtorEq, al63, ap37_37, bd77, bd120, bs37_1, fa54_1, fa120_0, fa120_1, fa120_2, ix25, ld3, ld25, ld37, ld63, ln37, st3, st37, st63, k0, k1, b2, b6, q.rd 0 rfl, if_pos g1, Int.toNat_natCast, hrd, c1, w1]
    refine st_set q 0 rfl fun H1 q1 => ?_
    simp only [List.set_cons_zero, List.set_cons_succ] at q1
    simp -implicitDefEqProofs only [kz, kk0, kk1, kk2, kk3, ↓two_true, ↓two_false, mkv, aggAt, Nat.reduceLeDiff, Nat.reduceSub, Nat.reduceMul, implies_true, Nat.reduceEqDiff, reduceIte, Nat.reduceAdd, Nat.reduceBEq, reduceCtorEq, al63, ap37_37, bd77, bd120, bs37_1, fa54_1, fa120_0, fa120_1, fa120_2, ix25, ld3, ld25, ld37, ld63, ln37, st3, st37, st63, q1.rd 0 rfl, w1]
    refine (ih q1 hl h3 hin (by omega) hT).mono ?_
    rintro _ H2 ⟨ok, a2, na, nc, m, xs, V, rfl, q2, l1, l2, l3⟩
    cases ok with
    | false =>
      simp -implicitDefEqProofs only [kz, kk0, kk1, kk2, kk3, ↓two_true, ↓two_false, mkv, aggAt, Nat.reduceLeDiff, Nat.reduceSub, Nat.reduceMul, implies_true, Nat.reduceEqDiff, reduceIte, Nat.reduceAdd, Nat.reduceBEq, reduceCtorEq, al63, ap37_37, bd77, bd120, bs37_1, fa54_1, fa120_0, fa120_1, fa120_2, ix25, ld3, ld25, ld37, ld63, ln37, st3, st37, st63, q2.rd 0 rfl, Bool.not_false]
      exact ⟨false, a2, na, nc, m, xs, V, rfl, q2, by omega, l2, fun h => by cases h⟩
    | true =>
      obtain ⟨l4, l5, l6⟩ := l3 rfl
      have hV := q2.tlen 1 rfl
      have wm : IntKind.i64.wrap ((m : Int) - 1) = (m : Int) - 1 := IntWalk.i64_in _ (by omega)
      simp -implicitDefEqProofs only [kz, kk0, kk1, kk2, kk3, ↓two_true, ↓two_false, mkv, aggAt, Nat.reduceLeDiff, Nat.reduceSub, Nat.reduceMul, implies_true, Nat.reduceEqDiff, reduceIte, Nat.reduceAdd, Nat.reduceBEq, reduceCtorEq, al63, ap37_37, bd77, bd120, bs37_1, fa54_1, fa120_0, fa120_1, fa120_2, ix25, ld3, ld25, ld37, ld63, ln37, st3, st37, st63, q2.rd 0 rfl, Bool.not_true, wm]
      refine st_cells q2 fun H3 q3 => ?_
      simp -implicitDefEqProofs only [kz, kk0, kk1, kk2, kk3, ↓two_true, ↓two_false, mkv, aggAt, Nat.reduceLeDiff, Nat.reduceSub, Nat.reduceMul, implies_true, Nat.reduceEqDiff, reduceIte, Nat.reduceAdd, Nat.reduceBEq, reduceCtorEq, al63, ap37_37, bd77, bd120, bs37_1, fa54_1, fa120_0, fa120_1, fa120_2, ix25, ld3, ld25, ld37, ld63, ln37, st3, st37, st63, q3.rd 0 rfl, q3.rd 1 rfl, wm]
      refine st_app7 q3 2 0 rfl rfl (fun B h => nilRow) (by omega) fun a5 c5 H4 ys q4 => ?_
      simp only [List.set_cons_zero, List.set_cons_succ] at q4
      simp -implicitDefEqProofs only [kz, kk0, kk1, kk2, kk3, ↓two_true, ↓two_false, mkv, aggAt, Nat.reduceLeDiff, Nat.reduceSub, Nat.reduceMul, implies_true, Nat.reduceEqDiff, reduceIte, Nat.reduceAdd, Nat.reduceBEq, reduceCtorEq, al63, ap37_37, bd77, bd120, bs37_1, fa54_1, fa120_0, fa120_1, fa120_2, ix25, ld3, ld25, ld37, ld63, ln37, st3, st37, st63, q4.rd 1 rfl, wm]
      refine st_set q4 1 rfl fun H5 q5 => ?_
      simp only [List.set_cons_zero, List.set_cons_succ] at q5
      simp -implicitDefEqProofs only [kz, kk0, kk1, kk2, kk3, ↓two_true, ↓two_false, mkv, aggAt, Nat.reduceLeDiff, Nat.reduceSub, Nat.reduceMul, implies_true, Nat.reduceEqDiff, reduceIte, Nat.reduceAdd, Nat.reduceBEq, reduceCtorEq, al63, ap37_37, bd77, bd120, bs37_1, fa54_1, fa120_0, fa120_1, fa120_2, ix25, ld3, ld25, ld37, ld63, ln37, st3, st37, st63, q5.rd 1 rfl]
      have qa := q5.front 4 [1, 2, 3] (by decide) rfl
      simp only [List.filterMap_cons, List.filterMap_nil, List.getElem?_cons_zero, List.getElem?_cons_succ, List.drop_succ_cons, List.drop_zero, List.cons_append, List.nil_append] at qa
      refine ⟨true, a2, a5, c5, m + 1, ys, _, rfl, qa, by omega, l2, fun _ => ⟨by omega, by omega, ?_⟩⟩
      rw [ndL_snoc hV rfl]
      refine l6.un ?_ (.inl rfl) (by rw [ndL_len]; rfl)
      simp [ndOf, ndOk, hnv]
  · have hpick : ∀ (A B : Prop), two (tkK toks at' == 2) (two (tkK toks (at' + 1) == 6) A B) B = B := fun A B => by
      by_cases e2 : tkK toks at' = 2
      · have e6 : ¬ tkK toks (at' + 1) = 6 := fun e => hset ⟨e2, e⟩
        rw [show (tkK toks at' == 2) = true by simpa using e2, show (tkK toks (at' + 1) == 6) = false by simpa using e6]
        simp [two]
      · rw [show (tkK toks at' == 2) = false by simpa using e2]
        simp [two]
    by_cases e2 : tkK toks at' = 2
    · have e6 : ¬ tkK toks (at' + 1) = 6 := fun e => hset ⟨e2, e⟩
      have b2 : (tkK toks at' == 2) = true := by simpa using e2
      have b6 : (tkK toks (at' + 1) == 6) = false := by simpa using e6
      have b3 : (tkK toks at' == 3) = false := by rw [e2]; rfl
      simp -implicitDefEqProofs only [kz, kk0, kk1, kk2, kk3, ↓two_true, ↓two_false, mkv, aggAt, Nat.reduceLeDiff, Nat.reduceSub, Nat.reduceMul, implies_true, Nat.reduceEqDiff, reduceIte, Nat.reduceAdd, Nat.reduceBEq, reduceCtorEq, al63, ap37_37, bd77, bd120, bs37_1, fa54_1, fa120_0, fa120_1, fa120_2, ix25, ld3, ld25, ld37, ld63, ln37, st3, st37, st63, k0, k1, b2, b6, b3, q.rd 0 rfl]
      refine st_box q fun H1 q1 => ?_
      simp -implicitDefEqProofs only [kz, kk0, kk1, kk2, kk3, ↓two_true, ↓two_false, mkv, aggAt, Nat.reduceLeDiff, Nat.reduceSub, Nat.reduceMul, implies_true, Nat.reduceEqDiff, reduceIte, Nat.reduceAdd, Nat.reduceBEq, reduceCtorEq, al63, ap37_37, bd77, bd120, bs37_1, fa54_1, fa120_0, fa120_1, fa120_2, ix25, ld3, ld25, ld37, ld63, ln37, st3, st37, st63, q1.rd 0 rfl, q1.rd 1 rfl]
      have no : ∀ {H9 : AH} {a9 : Nat} {na : Option Addr} {nc m : Nat} {xs : List Value} {V : List CV}, LX cc H0 H9 (.own (.box cb [.slice ta nt tc, .int .i64 (a9 : Nat), .slice na m nc]) :: .tab (.slice na m nc) kExpr m xs V :: .ftab (.slice ta nt tc) kToken nt ts (tokV toks) :: L) → at' ≤ a9 → a9 ≤ nt → LineR cc H0 L cb ta tc nt at' ts toks (.bool false) H9 :=
        fun q9 h h' => ⟨false, _, _, _, _, _, _, rfl, q9, h, h', fun h => by cases h⟩
      have q2 := q1.front 3 [0, 2, 1] (by decide) rfl
      simp only [List.filterMap_cons, List.filterMap_nil, List.getElem?_cons_zero, List.getElem?_cons_succ, List.drop_succ_cons, List.drop_zero, List.cons_append, List.nil_append] at q2
      refine (io q2 hl h3 h4 (by omega) hT).mono ?_
      rintro _ H3 ⟨ok, a2, la, lc, k, ys, W, rfl, q3, l1, l2, l3⟩
      cases ok with
      | false =>
        simp -implicitDefEqProofs only [kz, kk0, kk1, kk2, kk3, ↓two_true, ↓two_false, mkv, aggAt, Nat.reduceLeDiff, Nat.reduceSub, Nat.reduceMul, implies_true, Nat.reduceEqDiff, reduceIte, Nat.reduceAdd, Nat.reduceBEq, reduceCtorEq, al63, ap37_37, bd77, bd120, bs37_1, fa54_1, fa120_0, fa120_1, fa120_2, ix25, ld3, ld25, ld37, ld63, ln37, st3, st37, st63, Bool.not_false]
        have q4 := (q3.ntab kExpr).front 5 [4, 0, 3] (by decide) rfl
        simp only [List.filterMap_cons, List.filterMap_nil, List.getElem?_cons_zero, List.getElem?_cons_succ, List.drop_succ_cons, List.drop_zero, List.cons_append, List.nil_append] at q4
        exact no q4 (Nat.le_refl _) h4
      | true =>
        obtain ⟨l4, l5, l6⟩ := l3 rfl
        simp -implicitDefEqProofs only [kz, kk0, kk1, kk2, kk3, ↓two_true, ↓two_false, mkv, aggAt, Nat.reduceLeDiff, Nat.reduceSub, Nat.reduceMul, implies_true, Nat.reduceEqDiff, reduceIte, Nat.reduceAdd, Nat.reduceBEq, reduceCtorEq, al63, ap37_37, bd77, bd120, bs37_1, fa54_1, fa120_0, fa120_1, fa120_2, ix25, ld3, ld25, ld37, ld63, ln37, st3, st37, st63, Bool.not_true, q3.rd 0 rfl, q3.rd 3 rfl]
        refine st_set q3 3 rfl fun H4 q4 => ?_
        simp only [List.set_cons_zero, List.set_cons_succ] at q4
        simp -implicitDefEqProofs only [kz, kk0, kk1, kk2, kk3, ↓two_true, ↓two_false, mkv, aggAt, Nat.reduceLeDiff, Nat.reduceSub, Nat.reduceMul, implies_true, Nat.reduceEqDiff, reduceIte, Nat.reduceAdd, Nat.reduceBEq, reduceCtorEq, al63, ap37_37, bd77, bd120, bs37_1, fa54_1, fa120_0, fa120_1, fa120_2, ix25, ld3, ld25, ld37, ld63, ln37, st3, st37, st63, q4.rd 0 rfl, q4.rd 3 rfl]
        have q5 := q4.front 4 [3, 2, 0, 1] (by decide) rfl
        simp only [List.filterMap_cons, List.filterMap_nil, List.getElem?_cons_zero, List.getElem?_cons_succ, List.drop_succ_cons, List.drop_zero, List.cons_append, List.nil_append] at q5
        refine (l9Fun_ok q5 hl h3 l2).mono ?_
        rintro _ H6 ⟨s, o, w, ok1, a3, rfl, q6, m1, m2, m3, m4, -⟩
        simp -implicitDefEqProofs only [kz, kk0, kk1, kk2, kk3, ↓two_true, ↓two_false, mkv, aggAt, Nat.reduceLeDiff, Nat.reduceSub, Nat.reduceMul, implies_true, Nat.reduceEqDiff, reduceIte, Nat.reduceAdd, Nat.reduceBEq, reduceCtorEq, al63, ap37_37, bd77, bd120, bs37_1, fa54_1, fa120_0, fa120_1, fa120_2, ix25, ld3, ld25, ld37, ld63, ln37, st3, st37, st63]
        refine st_box q6 fun H7 q7 => ?_
        simp -implicitDefEqProofs only [kz, kk0, kk1, kk2, kk3, ↓two_true, ↓two_false, mkv, aggAt, Nat.reduceLeDiff, Nat.reduceSub, Nat.reduceMul, implies_true, Nat.reduceEqDiff, reduceIte, Nat.reduceAdd, Nat.reduceBEq, reduceCtorEq, al63, ap37_37, bd77, bd120, bs37_1, fa54_1, fa120_0, fa120_1, fa120_2, ix25, ld3, ld25, ld37, ld63, ln37, st3, st37, st63, q7.rd 0 rfl]
        refine st_set q7 0 rfl fun H8 q8 => ?_
        simp only [List.set_cons_zero, List.set_cons_succ] at q8
        cases ok1 with
        | false =>
          simp -implicitDefEqProofs only [kz, kk0, kk1, kk2, kk3, ↓two_true, ↓two_false, mkv, aggAt, Nat.reduceLeDiff, Nat.reduceSub, Nat.reduceMul, implies_true, Nat.reduceEqDiff, reduceIte, Nat.reduceAdd, Nat.reduceBEq, reduceCtorEq, al63, ap37_37, bd77, bd120, bs37_1, fa54_1, fa120_0, fa120_1, fa120_2, ix25, ld3, ld25, ld37, ld63, ln37, st3, st37, st63, Bool.not_false, q8.rd 0 rfl, q8.rd 1 rfl, q8.rd 3 rfl]
          have q9 := (q8.ntab kExpr).front 6 [2, 0, 5, 3] (by decide) rfl
          simp only [List.filterMap_cons, List.filterMap_nil, List.getElem?_cons_zero, List.getElem?_cons_succ, List.drop_succ_cons, List.drop_zero, List.cons_append, List.nil_append] at q9
          refine (l9Behind_ok q9 (by omega)).mono ?_
          rintro _ Ha ⟨a9, c9, zs, Z, qa, hZ⟩
          simp -implicitDefEqProofs only [kz, kk0, kk1, kk2, kk3, ↓two_true, ↓two_false, mkv, aggAt, Nat.reduceLeDiff, Nat.reduceSub, Nat.reduceMul, implies_true, Nat.reduceEqDiff, reduceIte, Nat.reduceAdd, Nat.reduceBEq, reduceCtorEq, al63, ap37_37, bd77, bd120, bs37_1, fa54_1, fa120_0, fa120_1, fa120_2, ix25, ld3, ld25, ld37, ld63, ln37, st3, st37, st63]
          have qb := qa.front 4 [0, 1, 3] (by decide) rfl
          simp only [List.filterMap_cons, List.filterMap_nil, List.getElem?_cons_zero, List.getElem?_cons_succ, List.drop_succ_cons, List.drop_zero, List.cons_append, List.nil_append] at qb
          simp only [Nat.zero_add] at qb hZ
          refine ⟨true, a3, a9, c9, k, zs, Z, rfl, qb, by omega, m2, fun _ => ⟨by omega, by omega, ?_⟩⟩
          rw [hZ, ndL_zero, List.nil_append]
          exact l6.sh0 (by rw [ndL_len]; omega)
        | true =>
          have hlt := m3 rfl
          simp -implicitDefEqProofs only [kz, kk0, kk1, kk2, kk3, ↓two_true, ↓two_false, mkv, aggAt, Nat.reduceLeDiff, Nat.reduceSub, Nat.reduceMul, implies_true, Nat.reduceEqDiff, reduceIte, Nat.reduceAdd, Nat.reduceBEq, reduceCtorEq, al63, ap37_37, bd77, bd120, bs37_1, fa54_1, fa120_0, fa120_1, fa120_2, ix25, ld3, ld25, ld37, ld63, ln37, st3, st37, st63, Bool.not_true, q8.rd 0 rfl, q8.rd 1 rfl, q8.rd 3 rfl, specFunTwo_eq]
          have q9 := (q8.front 5 [1, 2, 0, 3, 4] (by decide) rfl).extd ⟨jk Try.prog 83 #[.agg #[.int .i64 s, .int .i64 o, .int .i64 w]] H8, rfl⟩
          simp only [List.filterMap_cons, List.filterMap_nil, List.getElem?_cons_zero, List.getElem?_cons_succ, List.drop_succ_cons, List.drop_zero, List.cons_append, List.nil_append] at q9
          cases hf : funTwo s o w with
          | false =>
            simp -implicitDefEqProofs only [kz, kk0, kk1, kk2, kk3, ↓two_true, ↓two_false, mkv, aggAt, Nat.reduceLeDiff, Nat.reduceSub, Nat.reduceMul, implies_true, Nat.reduceEqDiff, reduceIte, Nat.reduceAdd, Nat.reduceBEq, reduceCtorEq, al63, ap37_37, bd77, bd120, bs37_1, fa54_1, fa120_0, fa120_1, fa120_2, ix25, ld3, ld25, ld37, ld63, ln37, st3, st37, st63, hf, Bool.not_false]
            have qa := (q9.ntab kExpr).front 6 [1, 0, 2] (by decide) rfl
            simp only [List.filterMap_cons, List.filterMap_nil, List.getElem?_cons_zero, List.getElem?_cons_succ, List.drop_succ_cons, List.drop_zero, List.cons_append, List.nil_append] at qa
            exact no qa (by omega) m2
          | true =>
            simp -implicitDefEqProofs only [kz, kk0, kk1, kk2, kk3, ↓two_true, ↓two_false, mkv, aggAt, Nat.reduceLeDiff, Nat.reduceSub, Nat.reduceMul, implies_true, Nat.reduceEqDiff, reduceIte, Nat.reduceAdd, Nat.reduceBEq, reduceCtorEq, al63, ap37_37, bd77, bd120, bs37_1, fa54_1, fa120_0, fa120_1, fa120_2, ix25, ld3, ld25, ld37, ld63, ln37, st3, st37, st63, hf, Bool.not_true]
            refine (ih q9 hl h3 m2 (by omega) hT).mono ?_
            rintro _ Ha ⟨ok, a4, na, nc, m, xs, R, rfl, qa, n1, n2, n3⟩
            cases ok with
            | false =>
              simp -implicitDefEqProofs only [kz, kk0, kk1, kk2, kk3, ↓two_true, ↓two_false, mkv, aggAt, Nat.reduceLeDiff, Nat.reduceSub, Nat.reduceMul, implies_true, Nat.reduceEqDiff, reduceIte, Nat.reduceAdd, Nat.reduceBEq, reduceCtorEq, al63, ap37_37, bd77, bd120, bs37_1, fa54_1, fa120_0, fa120_1, fa120_2, ix25, ld3, ld25, ld37, ld63, ln37, st3, st37, st63, Bool.not_false]
              have qb := qa.front 6 [0, 1, 2] (by decide) rfl
              simp only [List.filterMap_cons, List.filterMap_nil, List.getElem?_cons_zero, List.getElem?_cons_succ, List.drop_succ_cons, List.drop_zero, List.cons_append, List.nil_append] at qb
              exact no qb (by omega) n2
            | true =>
              obtain ⟨n4, n5, n6⟩ := n3 rfl
              have wm : IntKind.i64.wrap ((m : Int) - 1) = (m : Int) - 1 := IntWalk.i64_in _ (by omega)
              simp -implicitDefEqProofs only [kz, kk0, kk1, kk2, kk3, ↓two_true, ↓two_false, mkv, aggAt, Nat.reduceLeDiff, Nat.reduceSub, Nat.reduceMul, implies_true, Nat.reduceEqDiff, reduceIte, Nat.reduceAdd, Nat.reduceBEq, reduceCtorEq, al63, ap37_37, bd77, bd120, bs37_1, fa54_1, fa120_0, fa120_1, fa120_2, ix25, ld3, ld25, ld37, ld63, ln37, st3, st37, st63, qa.rd 0 rfl, qa.rd 3 rfl, qa.rd 4 rfl, Bool.not_true, wm]
              have qb := qa.front 6 [0, 1, 5, 2, 3] (by decide) rfl
              simp only [List.filterMap_cons, List.filterMap_nil, List.getElem?_cons_zero, List.getElem?_cons_succ, List.drop_succ_cons, List.drop_zero, List.cons_append, List.nil_append] at qb
              refine (l9Behind_ok qb (by omega)).mono ?_
              rintro _ Hc ⟨a9, c9, zs, Z, qc, hZ⟩
              have hV := qc.tlen 1 rfl
              have wk : IntKind.i64.wrap (((m + k : Nat) : Int) - 1) = ((m + k : Nat) : Int) - 1 := IntWalk.i64_in _ (by omega)
              simp -implicitDefEqProofs only [kz, kk0, kk1, kk2, kk3, ↓two_true, ↓two_false, mkv, aggAt, Nat.reduceLeDiff, Nat.reduceSub, Nat.reduceMul, implies_true, Nat.reduceEqDiff, reduceIte, Nat.reduceAdd, Nat.reduceBEq, reduceCtorEq, al63, ap37_37, bd77, bd120, bs37_1, fa54_1, fa120_0, fa120_1, fa120_2, ix25, ld3, ld25, ld37, ld63, ln37, st3, st37, st63, qc.rd 0 rfl, qc.rd 4 rfl, wk]
              refine st_cells qc fun Hd qd => ?_
              simp -implicitDefEqProofs only [kz, kk0, kk1, kk2, kk3, ↓two_true, ↓two_false, mkv, aggAt, Nat.reduceLeDiff, Nat.reduceSub, Nat.reduceMul, implies_true, Nat.reduceEqDiff, reduceIte, Nat.reduceAdd, Nat.reduceBEq, reduceCtorEq, al63, ap37_37, bd77, bd120, bs37_1, fa54_1, fa120_0, fa120_1, fa120_2, ix25, ld3, ld25, ld37, ld63, ln37, st3, st37, st63, qd.rd 0 rfl, qd.rd 1 rfl, qd.rd 5 rfl, wk]
              refine st_app7 qd 2 0 rfl rfl (fun B h => nilRow) (by omega) fun a7 c7 He us qe => ?_
              simp only [List.set_cons_zero, List.set_cons_succ] at qe
              simp -implicitDefEqProofs only [kz, kk0, kk1, kk2, kk3, ↓two_true, ↓two_false, mkv, aggAt, Nat.reduceLeDiff, Nat.reduceSub, Nat.reduceMul, implies_true, Nat.reduceEqDiff, reduceIte, Nat.reduceAdd, Nat.reduceBEq, reduceCtorEq, al63, ap37_37, bd77, bd120, bs37_1, fa54_1, fa120_0, fa120_1, fa120_2, ix25, ld3, ld25, ld37, ld63, ln37, st3, st37, st63, qe.rd 1 rfl, qe.rd 5 rfl, wk]
              refine st_set qe 1 rfl fun Hf qf => ?_
              simp only [List.set_cons_zero, List.set_cons_succ] at qf
              simp -implicitDefEqProofs only [kz, kk0, kk1, kk2, kk3, ↓two_true, ↓two_false, mkv, aggAt, Nat.reduceLeDiff, Nat.reduceSub, Nat.reduceMul, implies_true, Nat.reduceEqDiff, reduceIte, Nat.reduceAdd, Nat.reduceBEq, reduceCtorEq, al63, ap37_37, bd77, bd120, bs37_1, fa54_1, fa120_0, fa120_1, fa120_2, ix25, ld3, ld25, ld37, ld63, ln37, st3, st37, st63, qf.rd 1 rfl]
              have qg := qf.front 6 [1, 2, 4] (by decide) rfl
              simp only [List.filterMap_cons, List.filterMap_nil, List.getElem?_cons_zero, List.getElem?_cons_succ, List.drop_succ_cons, List.drop_zero, List.cons_append, List.nil_append] at qg
              refine ⟨true, a4, a7, c7, m + k + 1, us, _, rfl, qg, by omega, n2, fun _ => ⟨by omega, by omega, ?_⟩⟩
              rw [ndL_snoc hV rfl, hZ]
              have hm : (ndL R m).length = m := ndL_len
              have hk : (ndL W k).length = k := ndL_len
              have hb := n6.bin l6 (x := ndOf [.i 5, .i (((m + k : Nat) : Int) - 1), .i ((m : Int) - 1), .i s, .i o, .i w, .r []]) (by simp [ndOf, ndOk, hf]) rfl (by rw [hm, hk]; show ((m + k : Nat) : Int) - 1 = _; omega) (by rw [hm]; rfl) (by omega) (by omega)
              rw [hm] at hb
              exact hb
    · have b2 : (tkK toks at' == 2) = false := by simpa using e2
      by_cases e3 : tkK toks at' = 3
      · have b3 : (tkK toks at' == 3) = true := by simpa using e3
        have hin : at' < nt := by have := tkK_in (l := toks) (i := at') (by omega); omega
        have hv := tok_all hT (i := at') (by omega)
        have hs0 : tkS toks at' ≠ 0 := by
          unfold tkS
          rw [if_pos e3]
          intro e
          rw [e3, e] at hv
          revert hv
          decide
        simp -implicitDefEqProofs only [kz, kk0, kk1, kk2, kk3, ↓two_true, ↓two_false, mkv, aggAt, Nat.reduceLeDiff, Nat.reduceSub, Nat.reduceMul, implies_true, Nat.reduceEqDiff, reduceIte, Nat.reduceAdd, Nat.reduceBEq, reduceCtorEq, al63, ap37_37, bd77, bd120, bs37_1, fa54_1, fa120_0, fa120_1, fa120_2, ix25, ld3, ld25, ld37, ld63, ln37, st3, st37, st63, k0, k1, b2, b3, q.rd 0 rfl]
        refine (l9Fun_ok q hl h3 h4).mono ?_
        rintro _ H1 ⟨s, o, w, ok1, a2, rfl, q1, l1, l2, l3, l4, l5⟩
        have hlt := l3 (l5 hs0)
        simp -implicitDefEqProofs only [kz, kk0, kk1, kk2, kk3, ↓two_true, ↓two_false, mkv, aggAt, Nat.reduceLeDiff, Nat.reduceSub, Nat.reduceMul, implies_true, Nat.reduceEqDiff, reduceIte, Nat.reduceAdd, Nat.reduceBEq, reduceCtorEq, al63, ap37_37, bd77, bd120, bs37_1, fa54_1, fa120_0, fa120_1, fa120_2, ix25, ld3, ld25, ld37, ld63, ln37, st3, st37, st63]
        refine st_box q1 fun H2 q2 => ?_
        simp -implicitDefEqProofs only [kz, kk0, kk1, kk2, kk3, ↓two_true, ↓two_false, mkv, aggAt, Nat.reduceLeDiff, Nat.reduceSub, Nat.reduceMul, implies_true, Nat.reduceEqDiff, reduceIte, Nat.reduceAdd, Nat.reduceBEq, reduceCtorEq, al63, ap37_37, bd77, bd120, bs37_1, fa54_1, fa120_0, fa120_1, fa120_2, ix25, ld3, ld25, ld37, ld63, ln37, st3, st37, st63, q2.rd 0 rfl]
        refine st_set q2 0 rfl fun H3 q3 => ?_
        simp only [List.set_cons_zero, List.set_cons_succ] at q3
        simp -implicitDefEqProofs only [kz, kk0, kk1, kk2, kk3, ↓two_true, ↓two_false, mkv, aggAt, Nat.reduceLeDiff, Nat.reduceSub, Nat.reduceMul, implies_true, Nat.reduceEqDiff, reduceIte, Nat.reduceAdd, Nat.reduceBEq, reduceCtorEq, al63, ap37_37, bd77, bd120, bs37_1, fa54_1, fa120_0, fa120_1, fa120_2, ix25, ld3, ld25, ld37, ld63, ln37, st3, st37, st63, q3.rd 0 rfl, specFunOne_eq]
        have q4 := (q3.front 3 [1, 2, 0] (by decide) rfl).extd ⟨jk Try.prog 82 #[.agg #[.int .i64 s, .int .i64 o, .int .i64 w]] H3, rfl⟩
        simp only [List.filterMap_cons, List.filterMap_nil, List.getElem?_cons_zero, List.getElem?_cons_succ, List.drop_succ_cons, List.drop_zero, List.cons_append, List.nil_append] at q4
        have no : ∀ {H9 : AH} {a9 : Nat} {na : Option Addr} {nc m : Nat} {xs : List Value} {V : List CV}, LX cc H0 H9 (.own (.box cb [.slice ta nt tc, .int .i64 (a9 : Nat), .slice na m nc]) :: .tab (.slice na m nc) kExpr m xs V :: .ftab (.slice ta nt tc) kToken nt ts (tokV toks) :: L) → at' ≤ a9 → a9 ≤ nt → LineR cc H0 L cb ta tc nt at' ts toks (.bool false) H9 :=
          fun q9 h h' => ⟨false, _, _, _, _, _, _, rfl, q9, h, h', fun h => by cases h⟩
        cases hf : funOne s o w with
        | false =>
          simp -implicitDefEqProofs only [kz, kk0, kk1, kk2, kk3, ↓two_true, ↓two_false, mkv, aggAt, Nat.reduceLeDiff, Nat.reduceSub, Nat.reduceMul, implies_true, Nat.reduceEqDiff, reduceIte, Nat.reduceAdd, Nat.reduceBEq, reduceCtorEq, al63, ap37_37, bd77, bd120, bs37_1, fa54_1, fa120_0, fa120_1, fa120_2, ix25, ld3, ld25, ld37, ld63, ln37, st3, st37, st63, hf, Bool.not_false]
          have q5 := (q4.ntab kExpr).front 4 [1, 0, 2] (by decide) rfl
          simp only [List.filterMap_cons, List.filterMap_nil, List.getElem?_cons_zero, List.getElem?_cons_succ, List.drop_succ_cons, List.drop_zero, List.cons_append, List.nil_append] at q5
          exact no q5 l1 l2
        | true =>
          simp -implicitDefEqProofs only [kz, kk0, kk1, kk2, kk3, ↓two_true, ↓two_false, mkv, aggAt, Nat.reduceLeDiff, Nat.reduceSub, Nat.reduceMul, implies_true, Nat.reduceEqDiff, reduceIte, Nat.reduceAdd, Nat.reduceBEq, reduceCtorEq, al63, ap37_37, bd77, bd120, bs37_1, fa54_1, fa120_0, fa120_1, fa120_2, ix25, ld3, ld25, ld37, ld63, ln37, st3, st37, st63, hf, Bool.not_true]
          refine (ih q4 hl h3 l2 (by omega) hT).mono ?_
          rintro _ H5 ⟨ok, a5, na, nc, m, xs, V, rfl, q5, m1, m2, m3⟩
          cases ok with
          | false =>
            simp -implicitDefEqProofs only [kz, kk0, kk1, kk2, kk3, ↓two_true, ↓two_false, mkv, aggAt, Nat.reduceLeDiff, Nat.reduceSub, Nat.reduceMul, implies_true, Nat.reduceEqDiff, reduceIte, Nat.reduceAdd, Nat.reduceBEq, reduceCtorEq, al63, ap37_37, bd77, bd120, bs37_1, fa54_1, fa120_0, fa120_1, fa120_2, ix25, ld3, ld25, ld37, ld63, ln37, st3, st37, st63, Bool.not_false]
            have q6 := q5.front 4 [0, 1, 2] (by decide) rfl
            simp only [List.filterMap_cons, List.filterMap_nil, List.getElem?_cons_zero, List.getElem?_cons_succ, List.drop_succ_cons, List.drop_zero, List.cons_append, List.nil_append] at q6
            exact no q6 (by omega) m2
          | true =>
            obtain ⟨m4, m5, m6⟩ := m3 rfl
            have hV := q5.tlen 1 rfl
            have wm : IntKind.i64.wrap ((m : Int) - 1) = (m : Int) - 1 := IntWalk.i64_in _ (by omega)
            simp -implicitDefEqProofs only [kz, kk0, kk1, kk2, kk3, ↓two_true, ↓two_false, mkv, aggAt, Nat.reduceLeDiff, Nat.reduceSub, Nat.reduceMul, implies_true, Nat.reduceEqDiff, reduceIte, Nat.reduceAdd, Nat.reduceBEq, reduceCtorEq, al63, ap37_37, bd77, bd120, bs37_1, fa54_1, fa120_0, fa120_1, fa120_2, ix25, ld3, ld25, ld37, ld63, ln37, st3, st37, st63, q5.rd 0 rfl, q5.rd 3 rfl, Bool.not_true, wm]
            refine st_cells q5 fun H6 q6 => ?_
            simp -implicitDefEqProofs only [kz, kk0, kk1, kk2, kk3, ↓two_true, ↓two_false, mkv, aggAt, Nat.reduceLeDiff, Nat.reduceSub, Nat.reduceMul, implies_true, Nat.reduceEqDiff, reduceIte, Nat.reduceAdd, Nat.reduceBEq, reduceCtorEq, al63, ap37_37, bd77, bd120, bs37_1, fa54_1, fa120_0, fa120_1, fa120_2, ix25, ld3, ld25, ld37, ld63, ln37, st3, st37, st63, q6.rd 0 rfl, q6.rd 1 rfl, q6.rd 4 rfl, wm]
            refine st_app7 q6 2 0 rfl rfl (fun B h => nilRow) (by omega) fun a7 c7 H7 ys q7 => ?_
            simp only [List.set_cons_zero, List.set_cons_succ] at q7
            simp -implicitDefEqProofs only [kz, kk0, kk1, kk2, kk3, ↓two_true, ↓two_false, mkv, aggAt, Nat.reduceLeDiff, Nat.reduceSub, Nat.reduceMul, implies_true, Nat.reduceEqDiff, reduceIte, Nat.reduceAdd, Nat.reduceBEq, reduceCtorEq, al63, ap37_37, bd77, bd120, bs37_1, fa54_1, fa120_0, fa120_1, fa120_2, ix25, ld3, ld25, ld37, ld63, ln37, st3, st37, st63, q7.rd 1 rfl, q7.rd 4 rfl, wm]
            refine st_set q7 1 rfl fun H8 q8 => ?_
            simp only [List.set_cons_zero, List.set_cons_succ] at q8
            simp -implicitDefEqProofs only [kz, kk0, kk1, kk2, kk3, ↓two_true, ↓two_false, mkv, aggAt, Nat.reduceLeDiff, Nat.reduceSub, Nat.reduceMul, implies_true, Nat.reduceEqDiff, reduceIte, Nat.reduceAdd, Nat.reduceBEq, reduceCtorEq, al63, ap37_37, bd77, bd120, bs37_1, fa54_1, fa120_0, fa120_1, fa120_2, ix25, ld3, ld25, ld37, ld63, ln37, st3, st37, st63, q8.rd 1 rfl]
            have qa := q8.front 5 [1, 2, 3] (by decide) rfl
            simp only [List.filterMap_cons, List.filterMap_nil, List.getElem?_cons_zero, List.getElem?_cons_succ, List.drop_succ_cons, List.drop_zero, List.cons_append, List.nil_append] at qa
            refine ⟨true, a5, a7, c7, m + 1, ys, _, rfl, qa, by omega, m2, fun _ => ⟨by omega, by omega, ?_⟩⟩
            rw [ndL_snoc hV rfl]
            refine m6.un ?_ (.inr rfl) (by rw [ndL_len]; rfl)
            simp [ndOf, ndOk, hf]
      · have b3 : (tkK toks at' == 3) = false := by simpa using e3
        simp -implicitDefEqProofs only [kz, kk0, kk1, kk2, kk3, ↓two_true, ↓two_false, mkv, aggAt, Nat.reduceLeDiff, Nat.reduceSub, Nat.reduceMul, implies_true, Nat.reduceEqDiff, reduceIte, Nat.reduceAdd, Nat.reduceBEq, reduceCtorEq, al63, ap37_37, bd77, bd120, bs37_1, fa54_1, fa120_0, fa120_1, fa120_2, ix25, ld3, ld25, ld37, ld63, ln37, st3, st37, st63, k0, k1, b2, b3, q.rd 0 rfl]
        refine st_box q fun H1 q1 => ?_
        simp -implicitDefEqProofs only [kz, kk0, kk1, kk2, kk3, ↓two_true, ↓two_false, mkv, aggAt, Nat.reduceLeDiff, Nat.reduceSub, Nat.reduceMul, implies_true, Nat.reduceEqDiff, reduceIte, Nat.reduceAdd, Nat.reduceBEq, reduceCtorEq, al63, ap37_37, bd77, bd120, bs37_1, fa54_1, fa120_0, fa120_1, fa120_2, ix25, ld3, ld25, ld37, ld63, ln37, st3, st37, st63, q1.rd 0 rfl, q1.rd 1 rfl]
        have no : ∀ {H9 : AH} {a9 : Nat} {na : Option Addr} {nc m : Nat} {xs : List Value} {V : List CV}, LX cc H0 H9 (.own (.box cb [.slice ta nt tc, .int .i64 (a9 : Nat), .slice na m nc]) :: .tab (.slice na m nc) kExpr m xs V :: .ftab (.slice ta nt tc) kToken nt ts (tokV toks) :: L) → at' ≤ a9 → a9 ≤ nt → LineR cc H0 L cb ta tc nt at' ts toks (.bool false) H9 :=
          fun q9 h h' => ⟨false, _, _, _, _, _, _, rfl, q9, h, h', fun h => by cases h⟩
        have q2 := q1.front 3 [0, 2, 1] (by decide) rfl
        simp only [List.filterMap_cons, List.filterMap_nil, List.getElem?_cons_zero, List.getElem?_cons_succ, List.drop_succ_cons, List.drop_zero, List.cons_append, List.nil_append] at q2
        refine (io q2 hl h3 h4 (by omega) hT).mono ?_
        rintro _ H3 ⟨ok, a2, la, lc, k, ys, W, rfl, q3, l1, l2, l3⟩
        cases ok with
        | false =>
          simp -implicitDefEqProofs only [kz, kk0, kk1, kk2, kk3, ↓two_true, ↓two_false, mkv, aggAt, Nat.reduceLeDiff, Nat.reduceSub, Nat.reduceMul, implies_true, Nat.reduceEqDiff, reduceIte, Nat.reduceAdd, Nat.reduceBEq, reduceCtorEq, al63, ap37_37, bd77, bd120, bs37_1, fa54_1, fa120_0, fa120_1, fa120_2, ix25, ld3, ld25, ld37, ld63, ln37, st3, st37, st63, Bool.not_false]
          have q4 := (q3.ntab kExpr).front 5 [4, 0, 3] (by decide) rfl
          simp only [List.filterMap_cons, List.filterMap_nil, List.getElem?_cons_zero, List.getElem?_cons_succ, List.drop_succ_cons, List.drop_zero, List.cons_append, List.nil_append] at q4
          exact no q4 (Nat.le_refl _) h4
        | true =>
          obtain ⟨l4, l5, l6⟩ := l3 rfl
          simp -implicitDefEqProofs only [kz, kk0, kk1, kk2, kk3, ↓two_true, ↓two_false, mkv, aggAt, Nat.reduceLeDiff, Nat.reduceSub, Nat.reduceMul, implies_true, Nat.reduceEqDiff, reduceIte, Nat.reduceAdd, Nat.reduceBEq, reduceCtorEq, al63, ap37_37, bd77, bd120, bs37_1, fa54_1, fa120_0, fa120_1, fa120_2, ix25, ld3, ld25, ld37, ld63, ln37, st3, st37, st63, Bool.not_true, q3.rd 0 rfl, q3.rd 3 rfl]
          refine st_set q3 3 rfl fun H4 q4 => ?_
          simp only [List.set_cons_zero, List.set_cons_succ] at q4
          simp -implicitDefEqProofs only [kz, kk0, kk1, kk2, kk3, ↓two_true, ↓two_false, mkv, aggAt, Nat.reduceLeDiff, Nat.reduceSub, Nat.reduceMul, implies_true, Nat.reduceEqDiff, reduceIte, Nat.reduceAdd, Nat.reduceBEq, reduceCtorEq, al63, ap37_37, bd77, bd120, bs37_1, fa54_1, fa120_0, fa120_1, fa120_2, ix25, ld3, ld25, ld37, ld63, ln37, st3, st37, st63, q4.rd 0 rfl, q4.rd 3 rfl]
          have q5 := q4.front 4 [3, 2, 0, 1] (by decide) rfl
          simp only [List.filterMap_cons, List.filterMap_nil, List.getElem?_cons_zero, List.getElem?_cons_succ, List.drop_succ_cons, List.drop_zero, List.cons_append, List.nil_append] at q5
          refine (l9Fun_ok q5 hl h3 l2).mono ?_
          rintro _ H6 ⟨s, o, w, ok1, a3, rfl, q6, m1, m2, m3, m4, -⟩
          simp -implicitDefEqProofs only [kz, kk0, kk1, kk2, kk3, ↓two_true, ↓two_false, mkv, aggAt, Nat.reduceLeDiff, Nat.reduceSub, Nat.reduceMul, implies_true, Nat.reduceEqDiff, reduceIte, Nat.reduceAdd, Nat.reduceBEq, reduceCtorEq, al63, ap37_37, bd77, bd120, bs37_1, fa54_1, fa120_0, fa120_1, fa120_2, ix25, ld3, ld25, ld37, ld63, ln37, st3, st37, st63]
          refine st_box q6 fun H7 q7 => ?_
          simp -implicitDefEqProofs only [kz, kk0, kk1, kk2, kk3, ↓two_true, ↓two_false, mkv, aggAt, Nat.reduceLeDiff, Nat.reduceSub, Nat.reduceMul, implies_true, Nat.reduceEqDiff, reduceIte, Nat.reduceAdd, Nat.reduceBEq, reduceCtorEq, al63, ap37_37, bd77, bd120, bs37_1, fa54_1, fa120_0, fa120_1, fa120_2, ix25, ld3, ld25, ld37, ld63, ln37, st3, st37, st63, q7.rd 0 rfl]
          refine st_set q7 0 rfl fun H8 q8 => ?_
          simp only [List.set_cons_zero, List.set_cons_succ] at q8
          cases ok1 with
          | false =>
            simp -implicitDefEqProofs only [kz, kk0, kk1, kk2, kk3, ↓two_true, ↓two_false, mkv, aggAt, Nat.reduceLeDiff, Nat.reduceSub, Nat.reduceMul, implies_true, Nat.reduceEqDiff, reduceIte, Nat.reduceAdd, Nat.reduceBEq, reduceCtorEq, al63, ap37_37, bd77, bd120, bs37_1, fa54_1, fa120_0, fa120_1, fa120_2, ix25, ld3, ld25, ld37, ld63, ln37, st3, st37, st63, Bool.not_false, q8.rd 0 rfl, q8.rd 1 rfl, q8.rd 3 rfl]
            have q9 := (q8.ntab kExpr).front 6 [2, 0, 5, 3] (by decide) rfl
            simp only [List.filterMap_cons, List.filterMap_nil, List.getElem?_cons_zero, List.getElem?_cons_succ, List.drop_succ_cons, List.drop_zero, List.cons_append, List.nil_append] at q9
            refine (l9Behind_ok q9 (by omega)).mono ?_
            rintro _ Ha ⟨a9, c9, zs, Z, qa, hZ⟩
            simp -implicitDefEqProofs only [kz, kk0, kk1, kk2, kk3, ↓two_true, ↓two_false, mkv, aggAt, Nat.reduceLeDiff, Nat.reduceSub, Nat.reduceMul, implies_true, Nat.reduceEqDiff, reduceIte, Nat.reduceAdd, Nat.reduceBEq, reduceCtorEq, al63, ap37_37, bd77, bd120, bs37_1, fa54_1, fa120_0, fa120_1, fa120_2, ix25, ld3, ld25, ld37, ld63, ln37, st3, st37, st63]
            have qb := qa.front 4 [0, 1, 3] (by decide) rfl
            simp only [List.filterMap_cons, List.filterMap_nil, List.getElem?_cons_zero, List.getElem?_cons_succ, List.drop_succ_cons, List.drop_zero, List.cons_append, List.nil_append] at qb
            simp only [Nat.zero_add] at qb hZ
            refine ⟨true, a3, a9, c9, k, zs, Z, rfl, qb, by omega, m2, fun _ => ⟨by omega, by omega, ?_⟩⟩
            rw [hZ, ndL_zero, List.nil_append]
            exact l6.sh0 (by rw [ndL_len]; omega)
          | true =>
            have hlt := m3 rfl
            simp -implicitDefEqProofs only [kz, kk0, kk1, kk2, kk3, ↓two_true, ↓two_false, mkv, aggAt, Nat.reduceLeDiff, Nat.reduceSub, Nat.reduceMul, implies_true, Nat.reduceEqDiff, reduceIte, Nat.reduceAdd, Nat.reduceBEq, reduceCtorEq, al63, ap37_37, bd77, bd120, bs37_1, fa54_1, fa120_0, fa120_1, fa120_2, ix25, ld3, ld25, ld37, ld63, ln37, st3, st37, st63, Bool.not_true, q8.rd 0 rfl, q8.rd 1 rfl, q8.rd 3 rfl, specFunTwo_eq]
            have q9 := (q8.front 5 [1, 2, 0, 3, 4] (by decide) rfl).extd ⟨jk Try.prog 83 #[.agg #[.int .i64 s, .int .i64 o, .int .i64 w]] H8, rfl⟩
            simp only [List.filterMap_cons, List.filterMap_nil, List.getElem?_cons_zero, List.getElem?_cons_succ, List.drop_succ_cons, List.drop_zero, List.cons_append, List.nil_append] at q9
            cases hf : funTwo s o w with
            | false =>
              simp -implicitDefEqProofs only [kz, kk0, kk1, kk2, kk3, ↓two_true, ↓two_false, mkv, aggAt, Nat.reduceLeDiff, Nat.reduceSub, Nat.reduceMul, implies_true, Nat.reduceEqDiff, reduceIte, Nat.reduceAdd, Nat.reduceBEq, reduceCtorEq, al63, ap37_37, bd77, bd120, bs37_1, fa54_1, fa120_0, fa120_1, fa120_2, ix25, ld3, ld25, ld37, ld63, ln37, st3, st37, st63, hf, Bool.not_false]
              have qa := (q9.ntab kExpr).front 6 [1, 0, 2] (by decide) rfl
              simp only [List.filterMap_cons, List.filterMap_nil, List.getElem?_cons_zero, List.getElem?_cons_succ, List.drop_succ_cons, List.drop_zero, List.cons_append, List.nil_append] at qa
              exact no qa (by omega) m2
            | true =>
              simp -implicitDefEqProofs only [kz, kk0, kk1, kk2, kk3, ↓two_true, ↓two_false, mkv, aggAt, Nat.reduceLeDiff, Nat.reduceSub, Nat.reduceMul, implies_true, Nat.reduceEqDiff, reduceIte, Nat.reduceAdd, Nat.reduceBEq, reduceCtorEq, al63, ap37_37, bd77, bd120, bs37_1, fa54_1, fa120_0, fa120_1, fa120_2, ix25, ld3, ld25, ld37, ld63, ln37, st3, st37, st63, hf, Bool.not_true]
              refine (ih q9 hl h3 m2 (by omega) hT).mono ?_
              rintro _ Ha ⟨ok, a4, na, nc, m, xs, R, rfl, qa, n1, n2, n3⟩
              cases ok with
              | false =>
                simp -implicitDefEqProofs only [kz, kk0, kk1, kk2, kk3, ↓two_true, ↓two_false, mkv, aggAt, Nat.reduceLeDiff, Nat.reduceSub, Nat.reduceMul, implies_true, Nat.reduceEqDiff, reduceIte, Nat.reduceAdd, Nat.reduceBEq, reduceCtorEq, al63, ap37_37, bd77, bd120, bs37_1, fa54_1, fa120_0, fa120_1, fa120_2, ix25, ld3, ld25, ld37, ld63, ln37, st3, st37, st63, Bool.not_false]
                have qb := qa.front 6 [0, 1, 2] (by decide) rfl
                simp only [List.filterMap_cons, List.filterMap_nil, List.getElem?_cons_zero, List.getElem?_cons_succ, List.drop_succ_cons, List.drop_zero, List.cons_append, List.nil_append] at qb
                exact no qb (by omega) n2
              | true =>
                obtain ⟨n4, n5, n6⟩ := n3 rfl
                have wm : IntKind.i64.wrap ((m : Int) - 1) = (m : Int) - 1 := IntWalk.i64_in _ (by omega)
                simp -implicitDefEqProofs only [kz, kk0, kk1, kk2, kk3, ↓two_true, ↓two_false, mkv, aggAt, Nat.reduceLeDiff, Nat.reduceSub, Nat.reduceMul, implies_true, Nat.reduceEqDiff, reduceIte, Nat.reduceAdd, Nat.reduceBEq, reduceCtorEq, al63, ap37_37, bd77, bd120, bs37_1, fa54_1, fa120_0, fa120_1, fa120_2, ix25, ld3, ld25, ld37, ld63, ln37, st3, st37, st63, qa.rd 0 rfl, qa.rd 3 rfl, qa.rd 4 rfl, Bool.not_true, wm]
                have qb := qa.front 6 [0, 1, 5, 2, 3] (by decide) rfl
                simp only [List.filterMap_cons, List.filterMap_nil, List.getElem?_cons_zero, List.getElem?_cons_succ, List.drop_succ_cons, List.drop_zero, List.cons_append, List.nil_append] at qb
                refine (l9Behind_ok qb (by omega)).mono ?_
                rintro _ Hc ⟨a9, c9, zs, Z, qc, hZ⟩
                have hV := qc.tlen 1 rfl
                have wk : IntKind.i64.wrap (((m + k : Nat) : Int) - 1) = ((m + k : Nat) : Int) - 1 := IntWalk.i64_in _ (by omega)
                simp -implicitDefEqProofs only [kz, kk0, kk1, kk2, kk3, ↓two_true, ↓two_false, mkv, aggAt, Nat.reduceLeDiff, Nat.reduceSub, Nat.reduceMul, implies_true, Nat.reduceEqDiff, reduceIte, Nat.reduceAdd, Nat.reduceBEq, reduceCtorEq, al63, ap37_37, bd77, bd120, bs37_1, fa54_1, fa120_0, fa120_1, fa120_2, ix25, ld3, ld25, ld37, ld63, ln37, st3, st37, st63, qc.rd 0 rfl, qc.rd 4 rfl, wk]
                refine st_cells qc fun Hd qd => ?_
                simp -implicitDefEqProofs only [kz, kk0, kk1, kk2, kk3, ↓two_true, ↓two_false, mkv, aggAt, Nat.reduceLeDiff, Nat.reduceSub, Nat.reduceMul, implies_true, Nat.reduceEqDiff, reduceIte, Nat.reduceAdd, Nat.reduceBEq, reduceCtorEq, al63, ap37_37, bd77, bd120, bs37_1, fa54_1, fa120_0, fa120_1, fa120_2, ix25, ld3, ld25, ld37, ld63, ln37, st3, st37, st63, qd.rd 0 rfl, qd.rd 1 rfl, qd.rd 5 rfl, wk]
                refine st_app7 qd 2 0 rfl rfl (fun B h => nilRow) (by omega) fun a7 c7 He us qe => ?_
                simp only [List.set_cons_zero, List.set_cons_succ] at qe
                simp -implicitDefEqProofs only [kz, kk0, kk1, kk2, kk3, ↓two_true, ↓two_false, mkv, aggAt, Nat.reduceLeDiff, Nat.reduceSub, Nat.reduceMul, implies_true, Nat.reduceEqDiff, reduceIte, Nat.reduceAdd, Nat.reduceBEq, reduceCtorEq, al63, ap37_37, bd77, bd120, bs37_1, fa54_1, fa120_0, fa120_1, fa120_2, ix25, ld3, ld25, ld37, ld63, ln37, st3, st37, st63, qe.rd 1 rfl, qe.rd 5 rfl, wk]
                refine st_set qe 1 rfl fun Hf qf => ?_
                simp only [List.set_cons_zero, List.set_cons_succ] at qf
                simp -implicitDefEqProofs only [kz, kk0, kk1, kk2, kk3, ↓two_true, ↓two_false, mkv, aggAt, Nat.reduceLeDiff, Nat.reduceSub, Nat.reduceMul, implies_true, Nat.reduceEqDiff, reduceIte, Nat.reduceAdd, Nat.reduceBEq, reduceCtorEq, al63, ap37_37, bd77, bd120, bs37_1, fa54_1, fa120_0, fa120_1, fa120_2, ix25, ld3, ld25, ld37, ld63, ln37, st3, st37, st63, qf.rd 1 rfl]
                have qg := qf.front 6 [1, 2, 4] (by decide) rfl
                simp only [List.filterMap_cons, List.filterMap_nil, List.getElem?_cons_zero, List.getElem?_cons_succ, List.drop_succ_cons, List.drop_zero, List.cons_append, List.nil_append] at qg
                refine ⟨true, a4, a7, c7, m + k + 1, us, _, rfl, qg, by omega, n2, fun _ => ⟨by omega, by omega, ?_⟩⟩
                rw [ndL_snoc hV rfl, hZ]
                have hm : (ndL R m).length = m := ndL_len
                have hk : (ndL W k).length = k := ndL_len
                have hb := n6.bin l6 (x := ndOf [.i 5, .i (((m + k : Nat) : Int) - 1), .i ((m : Int) - 1), .i s, .i o, .i w, .r []]) (by simp [ndOf, ndOk, hf]) rfl (by rw [hm, hk]; show ((m + k : Nat) : Int) - 1 = _; omega) (by rw [hm]; rfl) (by omega) (by omega)
                rw [hm] at hb
                exact hb
theorem l9Line_all {N : Nat} : LineC Try.prog 107 N := by
  induction N with
  | zero => intro cc H0 H L cb ta tc nt at' ts toks q hl h3 h4 hN; omega
  | succ N ih => exact l9Line_step ih (l9Operand_step ih)

theorem LX.newF {c0 : Option Nat} {H0 H H' : AH} {L : List Ix} {v : Value} {ks : List CK} {n : Nat} {ys : List Value} {V : List CV} (h : LX c0 H0 H L) (hv : New H H' v ks n ys) (hV : cvs H' ys = V) (hf : ∃ K, H' = H ++ K) : LX c0 H0 H' (.ftab v ks n ys V :: L) := by
  obtain ⟨B, h⟩ := h
  obtain ⟨K, rfl⟩ := hf
  have : LX c0 H0 (H ++ K) (.own (.cmp (.row v ks n ys) V) :: L) :=
    ⟨B, h.add (by simp) (fun b hb _ => List.getElem?_append_left hb) (fun g e => (h.cur g e).mono) ⟨hv.ot, hV⟩ fun b hb => hv.fr b hb⟩
  exact this.fzc 0 rfl

theorem tok_agg {H : AH} {b o nt : Nat} {ts : List Value} {toks : List (Int × Int)} (f : FRow H (.slice (some ⟨b, o, none⟩) nt 2) kToken nt ts) (hV : cvs H ts = tokV toks) (hl : toks.length = nt) {i : Nat} (hi : i < nt) :
    ∃ cs, rd H b = some cs ∧ ld Try.prog 54 (o + i * 2) cs = some (.agg #[.int .i64 (tkK toks i), .int .i64 (tkV toks i)]) := by
  obtain ⟨a, c, e, gv⟩ := f.opn 2 rfl
  simp only [Value.slice.injEq, true_and] at e
  obtain ⟨rfl, rfl⟩ := e
  obtain ⟨b', o', cs, e, -, hrd, hle, hcell⟩ := gv (by omega)
  simp only [Option.some.injEq, Addr.mk.injEq] at e
  obtain ⟨rfl, rfl, -⟩ := e
  have x1 := f.elemn 2 rfl hi
  have em : (elm 2 ts i).map (cv H) = [.i (tkK toks i), .i (tkV toks i)] := by
    have e := tokV_get (l := toks) (i := i) (by omega)
    rw [← hV] at e
    simpa [elm, cvs] using e
  have l1 : ld Try.prog 54 (o + i * 2) cs = some (.agg (elm 2 ts i).toArray) := by rw [ld54]; exact (hcell i hi).1
  generalize elm 2 ts i = ex at *
  obtain ⟨_, _, rfl, ⟨p1, rfl⟩, _, _, rfl, ⟨p2, rfl⟩, rfl⟩ := x1
  simp only [List.map_cons, List.map_nil, cv_int, List.cons.injEq, CV.i.injEq, and_true] at em
  obtain ⟨rfl, rfl⟩ := em
  exact ⟨cs, hrd, l1⟩
set_option maxHeartbeats 4000000 in
theorem l8Tokens_ok {H : AH} {ta : Option Addr} {tc nt : Nat} {ts : List Value} {toks : List (Int × Int)} (f : FRow H (.slice ta nt tc) kToken nt ts) (hV : cvs H ts = tokV toks) (hl : toks.length = nt) (hn : nt ≤ 1048576) :
    CallsA Try.prog 106 #[.slice ta nt tc] H fun r H' => r = .bool ((toks.all fun t => tokOk t.1 t.2) && decide (nt ≤ 300)) ∧ ∃ K, H' = H ++ K := by
  refine w106 ?_
  unfold k106
  simp -implicitDefEqProofs only [kz, kk0, kk1, kk2, kk3, ↓two_true, ↓two_false, oS_some, oM_some, mkv, aggAt, Nat.reduceLeDiff, Nat.reduceSub, Nat.reduceMul, implies_true, Nat.reduceEqDiff, reduceIte, Nat.reduceAdd, Nat.reduceBEq, reduceCtorEq, ix25, ld54, ln25]
  refine rW_loop (σ := Nat) (fun i tm H' => tm 0 = .slice ta nt tc ∧ tm 3 = .int .i64 i ∧ i ≤ nt ∧ (∃ K, H' = H ++ K) ∧ ((toks.take i).all fun t => tokOk t.1 t.2) = true) (fun i => nt - i) 0 ?_ ?_
  · exact ⟨rfl, rfl, Nat.zero_le _, ⟨[], (List.append_nil _).symm⟩, rfl⟩
  · rintro i tm H1 ⟨h0, h3, hi, ⟨K, rfl⟩, hA⟩
    simp -implicitDefEqProofs only [kz, kk0, kk1, kk2, kk3, ↓two_true, ↓two_false, oS_some, oM_some, mkv, aggAt, Nat.reduceLeDiff, Nat.reduceSub, Nat.reduceMul, implies_true, Nat.reduceEqDiff, reduceIte, Nat.reduceAdd, Nat.reduceBEq, reduceCtorEq, ix25, ld54, ln25, h0, h3]
    refine two_intro (fun u => ?_) (fun u => ?_)
    · have hlt : i < nt := by have := of_decide_eq_true u; omega
      obtain ⟨b, o, cs, rfl, rfl, -, -, -⟩ := tok_at f hV hl hlt
      obtain ⟨cs1, hrd1, l1⟩ := tok_agg (f.mono (L := K)) (by rw [f.vals]; exact hV) hl hlt
      have g1 : (0 : Int) ≤ (i : Int) ∧ (i : Int) < (nt : Int) := by omega
      have wi : IntKind.i64.wrap ((i : Int) + 1) = ((i + 1 : Nat) : Int) := IntWalk.i64_in ((i : Int) + 1) (by omega)
      simp -implicitDefEqProofs only [kz, kk0, kk1, kk2, kk3, ↓two_true, ↓two_false, oS_some, oM_some, mkv, aggAt, Nat.reduceLeDiff, Nat.reduceSub, Nat.reduceMul, implies_true, Nat.reduceEqDiff, reduceIte, Nat.reduceAdd, Nat.reduceBEq, reduceCtorEq, ix25, ld54, ln25, h0, h3, if_pos g1, Int.toNat_natCast, hrd1, l1]
      refine (specTokenOk_ok _ _ _).mono ?_
      rintro _ H2 ⟨rfl, K2, rfl⟩
      have hti : i < toks.length := by omega
      have e1 : toks[i] = (tkK toks i, tkV toks i) := by
        unfold tkK tkV
        rw [List.getElem?_eq_getElem hti]
      simp -implicitDefEqProofs only [kz, kk0, kk1, kk2, kk3, ↓two_true, ↓two_false, oS_some, oM_some, mkv, aggAt, Nat.reduceLeDiff, Nat.reduceSub, Nat.reduceMul, implies_true, Nat.reduceEqDiff, reduceIte, Nat.reduceAdd, Nat.reduceBEq, reduceCtorEq, ix25, ld54, ln25, h0, h3, wi]
      refine two_intro (fun v => ?_) (fun v => ?_)
      · have hv : tokOk (tkK toks i) (tkV toks i) = false := by simpa using v
        have : (toks.all fun t => tokOk t.1 t.2) = false := by
          rw [Bool.eq_false_iff]
          intro h
          have := List.all_eq_true.1 h _ (List.getElem_mem hti)
          rw [e1, hv] at this
          cases this
        rw [this]
        exact ⟨rfl, ⟨K ++ K2, by simp⟩⟩
      · have hv : tokOk (tkK toks i) (tkV toks i) = true := by simpa using v
        try simp -implicitDefEqProofs only [kz, kk0, kk1, kk2, kk3, ↓two_true, ↓two_false, oS_some, oM_some, mkv, aggAt, Nat.reduceLeDiff, Nat.reduceSub, Nat.reduceMul, implies_true, Nat.reduceEqDiff, reduceIte, Nat.reduceAdd, Nat.reduceBEq, reduceCtorEq, ix25, ld54, ln25, h0, h3, wi]
        refine ⟨i + 1, by omega, ?_⟩
        have hA2 : ((toks.take (i + 1)).all fun t => tokOk t.1 t.2) = true := by
          rw [List.take_succ_eq_append_getElem hti, List.all_append, hA, e1]
          simp [hv]
        first | exact ⟨rfl, hlt, ⟨K ++ K2, by simp⟩, hA2⟩ | exact ⟨hlt, ⟨K ++ K2, by simp⟩, hA2⟩
    · have hge : i = nt := by have := of_decide_eq_false u; omega
      try simp -implicitDefEqProofs only [kz, kk0, kk1, kk2, kk3, ↓two_true, ↓two_false, oS_some, oM_some, mkv, aggAt, Nat.reduceLeDiff, Nat.reduceSub, Nat.reduceMul, implies_true, Nat.reduceEqDiff, reduceIte, Nat.reduceAdd, Nat.reduceBEq, reduceCtorEq, ix25, ld54, ln25, h0, h3]
      rw [List.take_of_length_le (by omega)] at hA
      rw [hA, Bool.true_and]
      refine ⟨?_, K, rfl⟩
      congr 2
      simp only [eq_iff_iff]
      omega

set_option maxHeartbeats 4000000 in
theorem parse_ok {c0 : Option Nat} {H0 H : AH} {L : List Ix} {ta : Option Addr} {tc nt : Nat} {ts : List Value} {toks : List (Int × Int)} (q : LX c0 H0 H (.ftab (.slice ta nt tc) kToken nt ts (tokV toks) :: L)) (hl : toks.length = nt) (hn : nt ≤ 1048576) :
    CallsA Try.prog 96 #[.slice ta nt tc] H fun r H' => ∃ (na : Option Addr) (m nc : Nat) (xs : List Value) (V : List CV) (code : Int), r = .tuple #[.agg #[.slice na m nc], .int .i64 code] ∧ LX c0 H0 H' (.tab (.slice na m nc) kExpr m xs V :: L) ∧ (code = 0 → m ≤ 60 ∧ PT (ndL V m)) := by
  refine w96 ?_
  unfold k96
  simp -implicitDefEqProofs only [kz, kk0, kk1, kk2, kk3, ↓two_true, ↓two_false, mkv, aggAt, Nat.reduceLeDiff, Nat.reduceSub, Nat.reduceMul, implies_true, Nat.reduceEqDiff, reduceIte, Nat.reduceAdd, Nat.reduceBEq, reduceCtorEq, al39, bd39, bd120, fa120_1, fa120_2, ld3, ld37, ld39, ln25, ln37, st39]
  refine st_box q fun H1 q1 => ?_
  simp -implicitDefEqProofs only [kz, kk0, kk1, kk2, kk3, ↓two_true, ↓two_false, mkv, aggAt, Nat.reduceLeDiff, Nat.reduceSub, Nat.reduceMul, implies_true, Nat.reduceEqDiff, reduceIte, Nat.reduceAdd, Nat.reduceBEq, reduceCtorEq, al39, bd39, bd120, fa120_1, fa120_2, ld3, ld37, ld39, ln25, ln37, st39, q1.rd 0 rfl]
  refine st_box q1 fun H2 q2 => ?_
  simp -implicitDefEqProofs only [kz, kk0, kk1, kk2, kk3, ↓two_true, ↓two_false, mkv, aggAt, Nat.reduceLeDiff, Nat.reduceSub, Nat.reduceMul, implies_true, Nat.reduceEqDiff, reduceIte, Nat.reduceAdd, Nat.reduceBEq, reduceCtorEq, al39, bd39, bd120, fa120_1, fa120_2, ld3, ld37, ld39, ln25, ln37, st39, q2.rd 0 rfl]
  refine st_set q2 0 rfl fun H3 q3 => ?_
  simp only [List.set_cons_zero, List.set_cons_succ] at q3
  simp -implicitDefEqProofs only [kz, kk0, kk1, kk2, kk3, ↓two_true, ↓two_false, mkv, aggAt, Nat.reduceLeDiff, Nat.reduceSub, Nat.reduceMul, implies_true, Nat.reduceEqDiff, reduceIte, Nat.reduceAdd, Nat.reduceBEq, reduceCtorEq, al39, bd39, bd120, fa120_1, fa120_2, ld3, ld37, ld39, ln25, ln37, st39, q3.rd 0 rfl]
  refine (l8Tokens_ok (q3.ft 2 rfl).1 (q3.ft 2 rfl).2 hl hn).mono ?_
  rintro _ H4 ⟨rfl, hK4⟩
  have q4 := q3.extd hK4
  simp -implicitDefEqProofs only [kz, kk0, kk1, kk2, kk3, ↓two_true, ↓two_false, mkv, aggAt, Nat.reduceLeDiff, Nat.reduceSub, Nat.reduceMul, implies_true, Nat.reduceEqDiff, reduceIte, Nat.reduceAdd, Nat.reduceBEq, reduceCtorEq, al39, bd39, bd120, fa120_1, fa120_2, ld3, ld37, ld39, ln25, ln37, st39]
  have done : ∀ {H9 : AH} {L' : List Ix} {m nc : Nat} {na : Option Addr} {xs : List Value} {V : List CV} (c : Int), LX c0 H0 H9 (.tab (.slice na m nc) kExpr m xs V :: L) → (c = 0 → m ≤ 60 ∧ PT (ndL V m)) → True := fun _ _ _ => trivial
  cases hT : ((toks.all fun t => tokOk t.1 t.2) && decide (nt ≤ 300)) with
  | false =>
    simp -implicitDefEqProofs only [kz, kk0, kk1, kk2, kk3, ↓two_true, ↓two_false, mkv, aggAt, Nat.reduceLeDiff, Nat.reduceSub, Nat.reduceMul, implies_true, Nat.reduceEqDiff, reduceIte, Nat.reduceAdd, Nat.reduceBEq, reduceCtorEq, al39, bd39, bd120, fa120_1, fa120_2, ld3, ld37, ld39, ln25, ln37, st39, Bool.not_false, q4.rd 0 rfl, q4.rd 1 rfl]
    refine st_set q4 1 rfl fun H5 q5 => ?_
    simp only [List.set_cons_zero, List.set_cons_succ] at q5
    simp -implicitDefEqProofs only [kz, kk0, kk1, kk2, kk3, ↓two_true, ↓two_false, mkv, aggAt, Nat.reduceLeDiff, Nat.reduceSub, Nat.reduceMul, implies_true, Nat.reduceEqDiff, reduceIte, Nat.reduceAdd, Nat.reduceBEq, reduceCtorEq, al39, bd39, bd120, fa120_1, fa120_2, ld3, ld37, ld39, ln25, ln37, st39, q5.rd 0 rfl, q5.rd 1 rfl]
    have q6 := (q5.ntab kExpr).front 4 [0] (by decide) rfl
    simp only [List.filterMap_cons, List.filterMap_nil, List.getElem?_cons_zero, List.getElem?_cons_succ, List.drop_succ_cons, List.drop_zero, List.cons_append, List.nil_append] at q6
    exact ⟨none, 0, 0, [], [], 1, rfl, q6, fun h => by cases h⟩
  | true =>
    simp only [Bool.and_eq_true, decide_eq_true_eq] at hT
    obtain ⟨hT, h3⟩ := hT
    simp -implicitDefEqProofs only [kz, kk0, kk1, kk2, kk3, ↓two_true, ↓two_false, mkv, aggAt, Nat.reduceLeDiff, Nat.reduceSub, Nat.reduceMul, implies_true, Nat.reduceEqDiff, reduceIte, Nat.reduceAdd, Nat.reduceBEq, reduceCtorEq, al39, bd39, bd120, fa120_1, fa120_2, ld3, ld37, ld39, ln25, ln37, st39, Bool.not_true]
    refine st_box q4 fun H5 q5 => ?_
    simp -implicitDefEqProofs only [kz, kk0, kk1, kk2, kk3, ↓two_true, ↓two_false, mkv, aggAt, Nat.reduceLeDiff, Nat.reduceSub, Nat.reduceMul, implies_true, Nat.reduceEqDiff, reduceIte, Nat.reduceAdd, Nat.reduceBEq, reduceCtorEq, al39, bd39, bd120, fa120_1, fa120_2, ld3, ld37, ld39, ln25, ln37, st39, q5.rd 0 rfl]
    have q6 := q5.front 4 [0, 3, 1, 2] (by decide) rfl
    simp only [List.filterMap_cons, List.filterMap_nil, List.getElem?_cons_zero, List.getElem?_cons_succ, List.drop_succ_cons, List.drop_zero, List.cons_append, List.nil_append] at q6
    refine (l9Line_all (N := 301) (at' := 0) q6 hl h3 (Nat.zero_le _) (by omega) hT).mono ?_
    rintro _ H7 ⟨ok, a2, na, nc, m, xs, V, rfl, q7, l1, l2, l3⟩
    have fail : ∀ (code : Int) (tm : Tm), True := fun _ _ => trivial
    cases ok with
    | false =>
      simp -implicitDefEqProofs only [kz, kk0, kk1, kk2, kk3, ↓two_true, ↓two_false, mkv, aggAt, Nat.reduceLeDiff, Nat.reduceSub, Nat.reduceMul, implies_true, Nat.reduceEqDiff, reduceIte, Nat.reduceAdd, Nat.reduceBEq, reduceCtorEq, al39, bd39, bd120, fa120_1, fa120_2, ld3, ld37, ld39, ln25, ln37, st39, Bool.not_false, q7.rd 3 rfl, q7.rd 4 rfl]
      refine st_set q7 4 rfl fun H8 q8 => ?_
      simp only [List.set_cons_zero, List.set_cons_succ] at q8
      simp -implicitDefEqProofs only [kz, kk0, kk1, kk2, kk3, ↓two_true, ↓two_false, mkv, aggAt, Nat.reduceLeDiff, Nat.reduceSub, Nat.reduceMul, implies_true, Nat.reduceEqDiff, reduceIte, Nat.reduceAdd, Nat.reduceBEq, reduceCtorEq, al39, bd39, bd120, fa120_1, fa120_2, ld3, ld37, ld39, ln25, ln37, st39, q8.rd 4 rfl]
      have q9 := (q8.ntab kExpr).front 6 [0] (by decide) rfl
      simp only [List.filterMap_cons, List.filterMap_nil, List.getElem?_cons_zero, List.getElem?_cons_succ, List.drop_succ_cons, List.drop_zero, List.cons_append, List.nil_append] at q9
      exact ⟨none, 0, 0, [], [], 8, rfl, q9, fun h => by cases h⟩
    | true =>
      obtain ⟨l4, l5, l6⟩ := l3 rfl
      simp -implicitDefEqProofs only [kz, kk0, kk1, kk2, kk3, ↓two_true, ↓two_false, mkv, aggAt, Nat.reduceLeDiff, Nat.reduceSub, Nat.reduceMul, implies_true, Nat.reduceEqDiff, reduceIte, Nat.reduceAdd, Nat.reduceBEq, reduceCtorEq, al39, bd39, bd120, fa120_1, fa120_2, ld3, ld37, ld39, ln25, ln37, st39, Bool.not_true, q7.rd 0 rfl, q7.rd 3 rfl, q7.rd 4 rfl]
      refine two_intro (fun u => ?_) (fun u => two_intro (fun v => ?_) (fun v => ?_))
      · refine st_set q7 4 rfl fun H8 q8 => ?_
        simp only [List.set_cons_zero, List.set_cons_succ] at q8
        simp -implicitDefEqProofs only [kz, kk0, kk1, kk2, kk3, ↓two_true, ↓two_false, mkv, aggAt, Nat.reduceLeDiff, Nat.reduceSub, Nat.reduceMul, implies_true, Nat.reduceEqDiff, reduceIte, Nat.reduceAdd, Nat.reduceBEq, reduceCtorEq, al39, bd39, bd120, fa120_1, fa120_2, ld3, ld37, ld39, ln25, ln37, st39, q8.rd 4 rfl]
        have q9 := (q8.ntab kExpr).front 6 [0] (by decide) rfl
        simp only [List.filterMap_cons, List.filterMap_nil, List.getElem?_cons_zero, List.getElem?_cons_succ, List.drop_succ_cons, List.drop_zero, List.cons_append, List.nil_append] at q9
        exact ⟨none, 0, 0, [], [], 8, rfl, q9, fun h => by cases h⟩
      · refine st_set q7 4 rfl fun H8 q8 => ?_
        simp only [List.set_cons_zero, List.set_cons_succ] at q8
        simp -implicitDefEqProofs only [kz, kk0, kk1, kk2, kk3, ↓two_true, ↓two_false, mkv, aggAt, Nat.reduceLeDiff, Nat.reduceSub, Nat.reduceMul, implies_true, Nat.reduceEqDiff, reduceIte, Nat.reduceAdd, Nat.reduceBEq, reduceCtorEq, al39, bd39, bd120, fa120_1, fa120_2, ld3, ld37, ld39, ln25, ln37, st39, q8.rd 4 rfl]
        have q9 := (q8.ntab kExpr).front 6 [0] (by decide) rfl
        simp only [List.filterMap_cons, List.filterMap_nil, List.getElem?_cons_zero, List.getElem?_cons_succ, List.drop_succ_cons, List.drop_zero, List.cons_append, List.nil_append] at q9
        exact ⟨none, 0, 0, [], [], 6, rfl, q9, fun h => by cases h⟩
      · have hm : m ≤ 60 := by have := of_decide_eq_false v; omega
        refine st_set q7 4 rfl fun H8 q8 => ?_
        simp only [List.set_cons_zero, List.set_cons_succ] at q8
        simp -implicitDefEqProofs only [kz, kk0, kk1, kk2, kk3, ↓two_true, ↓two_false, mkv, aggAt, Nat.reduceLeDiff, Nat.reduceSub, Nat.reduceMul, implies_true, Nat.reduceEqDiff, reduceIte, Nat.reduceAdd, Nat.reduceBEq, reduceCtorEq, al39, bd39, bd120, fa120_1, fa120_2, ld3, ld37, ld39, ln25, ln37, st39, q8.rd 4 rfl]
        have q9 := q8.front 5 [1] (by decide) rfl
        simp only [List.filterMap_cons, List.filterMap_nil, List.getElem?_cons_zero, List.getElem?_cons_succ, List.drop_succ_cons, List.drop_zero, List.cons_append, List.nil_append] at q9
        exact ⟨na, m, nc, xs, V, 0, rfl, q9, fun _ => ⟨hm, l6⟩⟩

theorem LX.ncr {cb : Nat} {H0 H : AH} {L : List Ix} {v : Value} {l : List Int} (q : LX (some cb) H0 H L) (i : Nat) (hi : L[i]? = some (.own (.row v l))) : blkOf v ≠ some cb := by
  obtain ⟨B, h⟩ := q
  exact h.nc cb rfl i _ hi
theorem LX.curr {cb : Nat} {H0 H : AH} {L : List Ix} (q : LX (some cb) H0 H L) : Cur H cb := by
  obtain ⟨B, h⟩ := q
  exact h.cur cb rfl
/-- A table of one node. -/
theorem LX.tab1 {c0 : Option Nat} {H0 H : AH} {L : List Ix} {b : Nat} {k a b' s o w : Int} {p : Value} {l : List Int} (q : LX c0 H0 H L) (j : Nat) (hj : L[j]? = some (.own (.box b [.int .i64 k, .int .i64 a, .int .i64 b', .int .i64 s, .int .i64 o, .int .i64 w, p]))) (hp : ∀ B, LB B c0 H0 H L → KOk H .r p ∧ rowI H p = l ∧ ∀ g, blkOf p = some g → B g) :
    LX c0 H0 H (L.set j (.tab (.slice (some ⟨b, 0, none⟩) 1 7) kExpr 1 [.int .i64 k, .int .i64 a, .int .i64 b', .int .i64 s, .int .i64 o, .int .i64 w, p] [.i k, .i a, .i b', .i s, .i o, .i w, .r l])) := by
  obtain ⟨B, h⟩ := q
  obtain ⟨f1, f2, f3⟩ := lit7 h j hj (hp B h)
  have hb : H[b]? = some ⟨[.int .i64 k, .int .i64 a, .int .i64 b', .int .i64 s, .int .i64 o, .int .i64 w, p], .own⟩ := h.ok j _ hj
  refine ⟨B, h.upd j hj (Nat.le_refl _) (fun _ _ _ => rfl) ⟨⟨rfl, .inr ⟨b, 0, _, rfl, hb, by simp [kExpr], fun j y hy => by rw [Nat.zero_add]; exact hy⟩, fun i c kk y hi hk hy => f1.ok i c kk y hi hk hy, f3⟩, f2⟩ fun g hg => .inl ?_⟩
  simp [Ix.bs, It.bs, blkOf] at hg ⊢
  exact hg.symm
set_option maxHeartbeats 4000000 in
theorem l9DrawFun_ok {H0 H : AH} {L : List Ix} {cb : Nat} (q : LX (some cb) H0 H L) :
    CallsA Try.prog 80 #[.pointer (some ⟨cb, 0, none⟩)] H fun r H' => ∃ s o w : Int, r = .agg #[.int .i64 s, .int .i64 o, .int .i64 w] ∧ LX (some cb) H0 H' L := by
  refine w80 ?_
  unfold k80
  simp -implicitDefEqProofs only [kz, kk0, kk1, kk2, kk3, ↓two_true, ↓two_false, mkv, aggAt, Nat.reduceLeDiff, Nat.reduceSub, Nat.reduceMul, implies_true, Nat.reduceEqDiff, reduceIte, Nat.reduceAdd, Nat.reduceBEq, reduceCtorEq, al63, bd63, bs64_4, bs64_5, bs64_22, fa63_1, fa63_2, ld3, ld63, st3, st63]
  refine st_box q fun H1 q1 => ?_
  simp -implicitDefEqProofs only [kz, kk0, kk1, kk2, kk3, ↓two_true, ↓two_false, mkv, aggAt, Nat.reduceLeDiff, Nat.reduceSub, Nat.reduceMul, implies_true, Nat.reduceEqDiff, reduceIte, Nat.reduceAdd, Nat.reduceBEq, reduceCtorEq, al63, bd63, bs64_4, bs64_5, bs64_22, fa63_1, fa63_2, ld3, ld63, st3, st63]
  refine st_lit [43, 45, 42, 37, 124, 38, 126, 105, 35, 44, 116, 100, 114, 122, 64, 63, 103, 36, 101, 111, 47, 0] rfl rfl q1 fun H2 q2 => ?_
  simp -implicitDefEqProofs only [kz, kk0, kk1, kk2, kk3, ↓two_true, ↓two_false, mkv, aggAt, Nat.reduceLeDiff, Nat.reduceSub, Nat.reduceMul, implies_true, Nat.reduceEqDiff, reduceIte, Nat.reduceAdd, Nat.reduceBEq, reduceCtorEq, al63, bd63, bs64_4, bs64_5, bs64_22, fa63_1, fa63_2, ld3, ld63, st3, st63]
  refine (l1PickInt_ok q2.curr (q2.own 0 rfl) (q2.ncr 0 rfl) (by decide)).mono ?_
  rintro _ H3 ⟨⟨s, rfl, -⟩, hf⟩
  have q3 := (q2.call hf).tail
  simp -implicitDefEqProofs only [kz, kk0, kk1, kk2, kk3, ↓two_true, ↓two_false, mkv, aggAt, Nat.reduceLeDiff, Nat.reduceSub, Nat.reduceMul, implies_true, Nat.reduceEqDiff, reduceIte, Nat.reduceAdd, Nat.reduceBEq, reduceCtorEq, al63, bd63, bs64_4, bs64_5, bs64_22, fa63_1, fa63_2, ld3, ld63, st3, st63]
  refine st_box q3 fun H4 q4 => ?_
  simp -implicitDefEqProofs only [kz, kk0, kk1, kk2, kk3, ↓two_true, ↓two_false, mkv, aggAt, Nat.reduceLeDiff, Nat.reduceSub, Nat.reduceMul, implies_true, Nat.reduceEqDiff, reduceIte, Nat.reduceAdd, Nat.reduceBEq, reduceCtorEq, al63, bd63, bs64_4, bs64_5, bs64_22, fa63_1, fa63_2, ld3, ld63, st3, st63, q4.rd 0 rfl, q4.rd 1 rfl]
  refine st_set q4 0 rfl fun H5 q5 => ?_
  simp only [List.set_cons_zero, List.set_cons_succ] at q5
  simp -implicitDefEqProofs only [kz, kk0, kk1, kk2, kk3, ↓two_true, ↓two_false, mkv, aggAt, Nat.reduceLeDiff, Nat.reduceSub, Nat.reduceMul, implies_true, Nat.reduceEqDiff, reduceIte, Nat.reduceAdd, Nat.reduceBEq, reduceCtorEq, al63, bd63, bs64_4, bs64_5, bs64_22, fa63_1, fa63_2, ld3, ld63, st3, st63, q5.rd 0 rfl, q5.rd 1 rfl]
  refine (l1Once_ok q5.curr).mono ?_
  rintro _ H6 ⟨⟨b, rfl⟩, hf⟩
  have q6 := q5.call hf
  simp -implicitDefEqProofs only [kz, kk0, kk1, kk2, kk3, ↓two_true, ↓two_false, mkv, aggAt, Nat.reduceLeDiff, Nat.reduceSub, Nat.reduceMul, implies_true, Nat.reduceEqDiff, reduceIte, Nat.reduceAdd, Nat.reduceBEq, reduceCtorEq, al63, bd63, bs64_4, bs64_5, bs64_22, fa63_1, fa63_2, ld3, ld63, st3, st63, q6.rd 0 rfl, q6.rd 1 rfl]
  refine two_intro (fun _ => ?_) (fun _ => ?_)
  · refine st_lit [47, 92, 111, 46, 120] rfl rfl q6 fun H7 q7 => ?_
    simp -implicitDefEqProofs only [kz, kk0, kk1, kk2, kk3, ↓two_true, ↓two_false, mkv, aggAt, Nat.reduceLeDiff, Nat.reduceSub, Nat.reduceMul, implies_true, Nat.reduceEqDiff, reduceIte, Nat.reduceAdd, Nat.reduceBEq, reduceCtorEq, al63, bd63, bs64_4, bs64_5, bs64_22, fa63_1, fa63_2, ld3, ld63, st3, st63]
    refine (l1PickInt_ok q7.curr (q7.own 0 rfl) (q7.ncr 0 rfl) (by decide)).mono ?_
    rintro _ H8 ⟨⟨o, rfl, -⟩, hf⟩
    have q8 := (q7.call hf).tail
    simp -implicitDefEqProofs only [kz, kk0, kk1, kk2, kk3, ↓two_true, ↓two_false, mkv, aggAt, Nat.reduceLeDiff, Nat.reduceSub, Nat.reduceMul, implies_true, Nat.reduceEqDiff, reduceIte, Nat.reduceAdd, Nat.reduceBEq, reduceCtorEq, al63, bd63, bs64_4, bs64_5, bs64_22, fa63_1, fa63_2, ld3, ld63, st3, st63, q8.rd 0 rfl, q8.rd 1 rfl]
    refine st_set q8 0 rfl fun H9 q9 => ?_
    simp only [List.set_cons_zero, List.set_cons_succ] at q9
    simp -implicitDefEqProofs only [kz, kk0, kk1, kk2, kk3, ↓two_true, ↓two_false, mkv, aggAt, Nat.reduceLeDiff, Nat.reduceSub, Nat.reduceMul, implies_true, Nat.reduceEqDiff, reduceIte, Nat.reduceAdd, Nat.reduceBEq, reduceCtorEq, al63, bd63, bs64_4, bs64_5, bs64_22, fa63_1, fa63_2, ld3, ld63, st3, st63, q9.rd 0 rfl, q9.rd 1 rfl]
    by_cases ho : o = 46
    · have bo : (o == 46) = true := by simpa using ho
      have qz := q9
      simp -implicitDefEqProofs only [kz, kk0, kk1, kk2, kk3, ↓two_true, ↓two_false, mkv, aggAt, Nat.reduceLeDiff, Nat.reduceSub, Nat.reduceMul, implies_true, Nat.reduceEqDiff, reduceIte, Nat.reduceAdd, Nat.reduceBEq, reduceCtorEq, al63, bd63, bs64_4, bs64_5, bs64_22, fa63_1, fa63_2, ld3, ld63, st3, st63, qz.rd 0 rfl, qz.rd 1 rfl, bo]
      refine st_lit [43, 42, 105, 0] rfl rfl qz fun Ha qa => ?_
      simp -implicitDefEqProofs only [kz, kk0, kk1, kk2, kk3, ↓two_true, ↓two_false, mkv, aggAt, Nat.reduceLeDiff, Nat.reduceSub, Nat.reduceMul, implies_true, Nat.reduceEqDiff, reduceIte, Nat.reduceAdd, Nat.reduceBEq, reduceCtorEq, al63, bd63, bs64_4, bs64_5, bs64_22, fa63_1, fa63_2, ld3, ld63, st3, st63]
      refine (l1PickInt_ok qa.curr (qa.own 0 rfl) (qa.ncr 0 rfl) (by decide)).mono ?_
      rintro _ Hb ⟨⟨w, rfl, -⟩, hf⟩
      have qb := qa.call hf
      simp -implicitDefEqProofs only [kz, kk0, kk1, kk2, kk3, ↓two_true, ↓two_false, mkv, aggAt, Nat.reduceLeDiff, Nat.reduceSub, Nat.reduceMul, implies_true, Nat.reduceEqDiff, reduceIte, Nat.reduceAdd, Nat.reduceBEq, reduceCtorEq, al63, bd63, bs64_4, bs64_5, bs64_22, fa63_1, fa63_2, ld3, ld63, st3, st63, qb.rd 1 rfl, qb.rd 2 rfl]
      refine st_set qb 1 rfl fun Hc qc => ?_
      simp only [List.set_cons_zero, List.set_cons_succ] at qc
      simp -implicitDefEqProofs only [kz, kk0, kk1, kk2, kk3, ↓two_true, ↓two_false, mkv, aggAt, Nat.reduceLeDiff, Nat.reduceSub, Nat.reduceMul, implies_true, Nat.reduceEqDiff, reduceIte, Nat.reduceAdd, Nat.reduceBEq, reduceCtorEq, al63, bd63, bs64_4, bs64_5, bs64_22, fa63_1, fa63_2, ld3, ld63, st3, st63, qc.rd 1 rfl, qc.rd 2 rfl]
      refine st_set qc 2 rfl fun Hd qd => ?_
      simp only [List.set_cons_zero, List.set_cons_succ] at qd
      simp -implicitDefEqProofs only [kz, kk0, kk1, kk2, kk3, ↓two_true, ↓two_false, mkv, aggAt, Nat.reduceLeDiff, Nat.reduceSub, Nat.reduceMul, implies_true, Nat.reduceEqDiff, reduceIte, Nat.reduceAdd, Nat.reduceBEq, reduceCtorEq, al63, bd63, bs64_4, bs64_5, bs64_22, fa63_1, fa63_2, ld3, ld63, st3, st63, qd.rd 1 rfl, qd.rd 2 rfl]
      exact ⟨_, _, _, rfl, qd.tail.tail.tail⟩
    · have bo : (o == 46) = false := by simpa using ho
      simp -implicitDefEqProofs only [kz, kk0, kk1, kk2, kk3, ↓two_true, ↓two_false, mkv, aggAt, Nat.reduceLeDiff, Nat.reduceSub, Nat.reduceMul, implies_true, Nat.reduceEqDiff, reduceIte, Nat.reduceAdd, Nat.reduceBEq, reduceCtorEq, al63, bd63, bs64_4, bs64_5, bs64_22, fa63_1, fa63_2, ld3, ld63, st3, st63, q9.rd 0 rfl, q9.rd 1 rfl, bo]
      refine (l1Once_ok q9.curr).mono ?_
      rintro _ Hx ⟨⟨b2, rfl⟩, hf⟩
      have qz := q9.call hf
      simp -implicitDefEqProofs only [kz, kk0, kk1, kk2, kk3, ↓two_true, ↓two_false, mkv, aggAt, Nat.reduceLeDiff, Nat.reduceSub, Nat.reduceMul, implies_true, Nat.reduceEqDiff, reduceIte, Nat.reduceAdd, Nat.reduceBEq, reduceCtorEq, al63, bd63, bs64_4, bs64_5, bs64_22, fa63_1, fa63_2, ld3, ld63, st3, st63, qz.rd 0 rfl, qz.rd 1 rfl]
      refine two_intro (fun _ => ?_) (fun _ => ?_)
      · refine st_lit [43, 42, 105, 0] rfl rfl qz fun Ha qa => ?_
        simp -implicitDefEqProofs only [kz, kk0, kk1, kk2, kk3, ↓two_true, ↓two_false, mkv, aggAt, Nat.reduceLeDiff, Nat.reduceSub, Nat.reduceMul, implies_true, Nat.reduceEqDiff, reduceIte, Nat.reduceAdd, Nat.reduceBEq, reduceCtorEq, al63, bd63, bs64_4, bs64_5, bs64_22, fa63_1, fa63_2, ld3, ld63, st3, st63]
        refine (l1PickInt_ok qa.curr (qa.own 0 rfl) (qa.ncr 0 rfl) (by decide)).mono ?_
        rintro _ Hb ⟨⟨w, rfl, -⟩, hf⟩
        have qb := qa.call hf
        simp -implicitDefEqProofs only [kz, kk0, kk1, kk2, kk3, ↓two_true, ↓two_false, mkv, aggAt, Nat.reduceLeDiff, Nat.reduceSub, Nat.reduceMul, implies_true, Nat.reduceEqDiff, reduceIte, Nat.reduceAdd, Nat.reduceBEq, reduceCtorEq, al63, bd63, bs64_4, bs64_5, bs64_22, fa63_1, fa63_2, ld3, ld63, st3, st63, qb.rd 1 rfl, qb.rd 2 rfl]
        refine st_set qb 1 rfl fun Hc qc => ?_
        simp only [List.set_cons_zero, List.set_cons_succ] at qc
        simp -implicitDefEqProofs only [kz, kk0, kk1, kk2, kk3, ↓two_true, ↓two_false, mkv, aggAt, Nat.reduceLeDiff, Nat.reduceSub, Nat.reduceMul, implies_true, Nat.reduceEqDiff, reduceIte, Nat.reduceAdd, Nat.reduceBEq, reduceCtorEq, al63, bd63, bs64_4, bs64_5, bs64_22, fa63_1, fa63_2, ld3, ld63, st3, st63, qc.rd 1 rfl, qc.rd 2 rfl]
        refine st_set qc 2 rfl fun Hd qd => ?_
        simp only [List.set_cons_zero, List.set_cons_succ] at qd
        simp -implicitDefEqProofs only [kz, kk0, kk1, kk2, kk3, ↓two_true, ↓two_false, mkv, aggAt, Nat.reduceLeDiff, Nat.reduceSub, Nat.reduceMul, implies_true, Nat.reduceEqDiff, reduceIte, Nat.reduceAdd, Nat.reduceBEq, reduceCtorEq, al63, bd63, bs64_4, bs64_5, bs64_22, fa63_1, fa63_2, ld3, ld63, st3, st63, qd.rd 1 rfl, qd.rd 2 rfl]
        exact ⟨_, _, _, rfl, qd.tail.tail.tail⟩
      · refine st_set qz 1 rfl fun Hd qd => ?_
        simp only [List.set_cons_zero, List.set_cons_succ] at qd
        simp -implicitDefEqProofs only [kz, kk0, kk1, kk2, kk3, ↓two_true, ↓two_false, mkv, aggAt, Nat.reduceLeDiff, Nat.reduceSub, Nat.reduceMul, implies_true, Nat.reduceEqDiff, reduceIte, Nat.reduceAdd, Nat.reduceBEq, reduceCtorEq, al63, bd63, bs64_4, bs64_5, bs64_22, fa63_1, fa63_2, ld3, ld63, st3, st63, qd.rd 0 rfl, qd.rd 1 rfl]
        exact ⟨_, _, _, rfl, qd.tail.tail⟩
  · have b0 : ((0 : Int) == 46) = false := rfl
    try simp -implicitDefEqProofs only [kz, kk0, kk1, kk2, kk3, ↓two_true, ↓two_false, mkv, aggAt, Nat.reduceLeDiff, Nat.reduceSub, Nat.reduceMul, implies_true, Nat.reduceEqDiff, reduceIte, Nat.reduceAdd, Nat.reduceBEq, reduceCtorEq, al63, bd63, bs64_4, bs64_5, bs64_22, fa63_1, fa63_2, ld3, ld63, st3, st63, q6.rd 0 rfl, q6.rd 1 rfl, b0]
    refine (l1Once_ok q6.curr).mono ?_
    rintro _ Hx ⟨⟨b2, rfl⟩, hf⟩
    have qz := q6.call hf
    simp -implicitDefEqProofs only [kz, kk0, kk1, kk2, kk3, ↓two_true, ↓two_false, mkv, aggAt, Nat.reduceLeDiff, Nat.reduceSub, Nat.reduceMul, implies_true, Nat.reduceEqDiff, reduceIte, Nat.reduceAdd, Nat.reduceBEq, reduceCtorEq, al63, bd63, bs64_4, bs64_5, bs64_22, fa63_1, fa63_2, ld3, ld63, st3, st63, qz.rd 0 rfl, qz.rd 1 rfl]
    refine two_intro (fun _ => ?_) (fun _ => ?_)
    · refine st_lit [43, 42, 105, 0] rfl rfl qz fun Ha qa => ?_
      simp -implicitDefEqProofs only [kz, kk0, kk1, kk2, kk3, ↓two_true, ↓two_false, mkv, aggAt, Nat.reduceLeDiff, Nat.reduceSub, Nat.reduceMul, implies_true, Nat.reduceEqDiff, reduceIte, Nat.reduceAdd, Nat.reduceBEq, reduceCtorEq, al63, bd63, bs64_4, bs64_5, bs64_22, fa63_1, fa63_2, ld3, ld63, st3, st63]
      refine (l1PickInt_ok qa.curr (qa.own 0 rfl) (qa.ncr 0 rfl) (by decide)).mono ?_
      rintro _ Hb ⟨⟨w, rfl, -⟩, hf⟩
      have qb := qa.call hf
      simp -implicitDefEqProofs only [kz, kk0, kk1, kk2, kk3, ↓two_true, ↓two_false, mkv, aggAt, Nat.reduceLeDiff, Nat.reduceSub, Nat.reduceMul, implies_true, Nat.reduceEqDiff, reduceIte, Nat.reduceAdd, Nat.reduceBEq, reduceCtorEq, al63, bd63, bs64_4, bs64_5, bs64_22, fa63_1, fa63_2, ld3, ld63, st3, st63, qb.rd 1 rfl, qb.rd 2 rfl]
      refine st_set qb 1 rfl fun Hc qc => ?_
      simp only [List.set_cons_zero, List.set_cons_succ] at qc
      simp -implicitDefEqProofs only [kz, kk0, kk1, kk2, kk3, ↓two_true, ↓two_false, mkv, aggAt, Nat.reduceLeDiff, Nat.reduceSub, Nat.reduceMul, implies_true, Nat.reduceEqDiff, reduceIte, Nat.reduceAdd, Nat.reduceBEq, reduceCtorEq, al63, bd63, bs64_4, bs64_5, bs64_22, fa63_1, fa63_2, ld3, ld63, st3, st63, qc.rd 1 rfl, qc.rd 2 rfl]
      refine st_set qc 2 rfl fun Hd qd => ?_
      simp only [List.set_cons_zero, List.set_cons_succ] at qd
      simp -implicitDefEqProofs only [kz, kk0, kk1, kk2, kk3, ↓two_true, ↓two_false, mkv, aggAt, Nat.reduceLeDiff, Nat.reduceSub, Nat.reduceMul, implies_true, Nat.reduceEqDiff, reduceIte, Nat.reduceAdd, Nat.reduceBEq, reduceCtorEq, al63, bd63, bs64_4, bs64_5, bs64_22, fa63_1, fa63_2, ld3, ld63, st3, st63, qd.rd 1 rfl, qd.rd 2 rfl]
      exact ⟨_, _, _, rfl, qd.tail.tail.tail⟩
    · refine st_set qz 1 rfl fun Hd qd => ?_
      simp only [List.set_cons_zero, List.set_cons_succ] at qd
      simp -implicitDefEqProofs only [kz, kk0, kk1, kk2, kk3, ↓two_true, ↓two_false, mkv, aggAt, Nat.reduceLeDiff, Nat.reduceSub, Nat.reduceMul, implies_true, Nat.reduceEqDiff, reduceIte, Nat.reduceAdd, Nat.reduceBEq, reduceCtorEq, al63, bd63, bs64_4, bs64_5, bs64_22, fa63_1, fa63_2, ld3, ld63, st3, st63, qd.rd 0 rfl, qd.rd 1 rfl]
      exact ⟨_, _, _, rfl, qd.tail.tail⟩

set_option maxHeartbeats 4000000 in
theorem l9DrawRight_ok {H0 H : AH} {L : List Ix} {cb : Nat} (q : LX (some cb) H0 H L) :
    CallsA Try.prog 79 #[.pointer (some ⟨cb, 0, none⟩)] H fun r H' => ∃ (na : Option Addr) (m nc : Nat) (xs : List Value) (V : List CV), r = .agg #[.slice na m nc] ∧ LX (some cb) H0 H' (.tab (.slice na m nc) kExpr m xs V :: L) ∧ m ≤ 60 ∧ PT (ndL V m) := by
  refine w79 ?_
  unfold k79
  simp -implicitDefEqProofs only [kz, kk0, kk1, kk2, kk3, ↓two_true, ↓two_false, mkv, aggAt, Nat.reduceLeDiff, Nat.reduceSub, Nat.reduceMul, implies_true, Nat.reduceEqDiff, reduceIte, Nat.reduceAdd, Nat.reduceBEq, reduceCtorEq, al39, bd39, bd77, bs37_1, bs64_2, ld39, st39]
  refine st_box q fun H1 q1 => ?_
  simp -implicitDefEqProofs only [kz, kk0, kk1, kk2, kk3, ↓two_true, ↓two_false, mkv, aggAt, Nat.reduceLeDiff, Nat.reduceSub, Nat.reduceMul, implies_true, Nat.reduceEqDiff, reduceIte, Nat.reduceAdd, Nat.reduceBEq, reduceCtorEq, al39, bd39, bd77, bs37_1, bs64_2, ld39, st39, q1.rd 0 rfl]
  refine rW_loop (σ := Nat) (fun i tm H' => tm 0 = .pointer (some ⟨cb, 0, none⟩) ∧ tm 2 = .pointer (some ⟨H.length, 0, none⟩) ∧ tm 3 = .int .i64 i ∧ i ≤ 6 ∧ LX (some cb) H0 H' (.own (.box H.length [.slice none 0 0]) :: L)) (fun i => 6 - i) 0 ?_ ?_
  · exact ⟨rfl, rfl, rfl, by omega, q1⟩
  · clear q1
    rintro i tm H2 ⟨h0, h2, h3, hi, q2⟩
    simp -implicitDefEqProofs only [kz, kk0, kk1, kk2, kk3, ↓two_true, ↓two_false, mkv, aggAt, Nat.reduceLeDiff, Nat.reduceSub, Nat.reduceMul, implies_true, Nat.reduceEqDiff, reduceIte, Nat.reduceAdd, Nat.reduceBEq, reduceCtorEq, al39, bd39, bd77, bs37_1, bs64_2, ld39, st39, h0, h2, h3]
    refine two_intro (fun u => ?_) (fun u => ?_)
    · have hlt : i < 6 := by have := of_decide_eq_true u; omega
      have wi : IntKind.i64.wrap ((i : Int) + 1) = ((i + 1 : Nat) : Int) := IntWalk.i64_in ((i : Int) + 1) (by omega)
      refine (l8DrawLine_ok q2.curr (by decide)).mono ?_
      rintro _ H3 ⟨⟨s, rfl, hs⟩, hf⟩
      have q3 := q2.call hf
      simp -implicitDefEqProofs only [kz, kk0, kk1, kk2, kk3, ↓two_true, ↓two_false, mkv, aggAt, Nat.reduceLeDiff, Nat.reduceSub, Nat.reduceMul, implies_true, Nat.reduceEqDiff, reduceIte, Nat.reduceAdd, Nat.reduceBEq, reduceCtorEq, al39, bd39, bd77, bs37_1, bs64_2, ld39, st39, h0, h2, h3]
      refine (specLex_ok (s := s) (by omega)).mono ?_
      rintro _ H4 ⟨⟨ta, tc, tys, rfl, tn, tV⟩, hK4⟩
      have q4 := q3.newF tn tV hK4
      have hlen := lexA_len (s := s)
      simp -implicitDefEqProofs only [kz, kk0, kk1, kk2, kk3, ↓two_true, ↓two_false, mkv, aggAt, Nat.reduceLeDiff, Nat.reduceSub, Nat.reduceMul, implies_true, Nat.reduceEqDiff, reduceIte, Nat.reduceAdd, Nat.reduceBEq, reduceCtorEq, al39, bd39, bd77, bs37_1, bs64_2, ld39, st39, h0, h2, h3]
      refine (parse_ok q4 rfl (by omega)).mono ?_
      rintro _ H5 ⟨na, m, nc, xs, V, code, rfl, q5, hp⟩
      simp -implicitDefEqProofs only [kz, kk0, kk1, kk2, kk3, ↓two_true, ↓two_false, mkv, aggAt, Nat.reduceLeDiff, Nat.reduceSub, Nat.reduceMul, implies_true, Nat.reduceEqDiff, reduceIte, Nat.reduceAdd, Nat.reduceBEq, reduceCtorEq, al39, bd39, bd77, bs37_1, bs64_2, ld39, st39, h0, h2, h3]
      refine st_box q5 fun H6 q6 => ?_
      simp -implicitDefEqProofs only [kz, kk0, kk1, kk2, kk3, ↓two_true, ↓two_false, mkv, aggAt, Nat.reduceLeDiff, Nat.reduceSub, Nat.reduceMul, implies_true, Nat.reduceEqDiff, reduceIte, Nat.reduceAdd, Nat.reduceBEq, reduceCtorEq, al39, bd39, bd77, bs37_1, bs64_2, ld39, st39, h0, h2, h3, q6.rd 0 rfl]
      refine st_set q6 0 rfl fun H7 q7 => ?_
      simp only [List.set_cons_zero, List.set_cons_succ] at q7
      simp -implicitDefEqProofs only [kz, kk0, kk1, kk2, kk3, ↓two_true, ↓two_false, mkv, aggAt, Nat.reduceLeDiff, Nat.reduceSub, Nat.reduceMul, implies_true, Nat.reduceEqDiff, reduceIte, Nat.reduceAdd, Nat.reduceBEq, reduceCtorEq, al39, bd39, bd77, bs37_1, bs64_2, ld39, st39, h0, h2, h3, q7.rd 0 rfl, q7.rd 2 rfl, wi]
      refine two_intro (fun v => ?_) (fun v => ?_)
      · have hc : code = 0 := by simpa using v
        refine st_set q7 2 rfl fun H8 q8 => ?_
        simp only [List.set_cons_zero, List.set_cons_succ] at q8
        simp -implicitDefEqProofs only [kz, kk0, kk1, kk2, kk3, ↓two_true, ↓two_false, mkv, aggAt, Nat.reduceLeDiff, Nat.reduceSub, Nat.reduceMul, implies_true, Nat.reduceEqDiff, reduceIte, Nat.reduceAdd, Nat.reduceBEq, reduceCtorEq, al39, bd39, bd77, bs37_1, bs64_2, ld39, st39, h0, h2, h3, q8.rd 0 rfl, q8.rd 2 rfl]
        have q9 := q8.front 3 [1] (by decide) rfl
        simp only [List.filterMap_cons, List.filterMap_nil, List.getElem?_cons_zero, List.getElem?_cons_succ, List.drop_succ_cons, List.drop_zero, List.cons_append, List.nil_append] at q9
        exact ⟨na, m, nc, xs, V, rfl, q9, hp hc⟩
      · have q9 := q7.front 3 [2] (by decide) rfl
        simp only [List.filterMap_cons, List.filterMap_nil, List.getElem?_cons_zero, List.getElem?_cons_succ, List.drop_succ_cons, List.drop_zero, List.cons_append, List.nil_append] at q9
        refine ⟨i + 1, by omega, ?_⟩
        first | exact ⟨rfl, rfl, rfl, hlt, q9⟩ | exact ⟨rfl, rfl, hlt, q9⟩ | exact ⟨rfl, hlt, q9⟩ | exact ⟨hlt, q9⟩
    · try simp -implicitDefEqProofs only [kz, kk0, kk1, kk2, kk3, ↓two_true, ↓two_false, mkv, aggAt, Nat.reduceLeDiff, Nat.reduceSub, Nat.reduceMul, implies_true, Nat.reduceEqDiff, reduceIte, Nat.reduceAdd, Nat.reduceBEq, reduceCtorEq, al39, bd39, bd77, bs37_1, bs64_2, ld39, st39, h0, h2, h3]
      refine st_lit [1, 2] rfl rfl q2 fun H3 q3 => ?_
      have q3 := q3.fzr 0 rfl
      simp only [List.set_cons_zero, List.set_cons_succ] at q3
      simp -implicitDefEqProofs only [kz, kk0, kk1, kk2, kk3, ↓two_true, ↓two_false, mkv, aggAt, Nat.reduceLeDiff, Nat.reduceSub, Nat.reduceMul, implies_true, Nat.reduceEqDiff, reduceIte, Nat.reduceAdd, Nat.reduceBEq, reduceCtorEq, al39, bd39, bd77, bs37_1, bs64_2, ld39, st39, h0, h2, h3]
      refine st_cells q3 fun H4 q4 => ?_
      have q4 := q4.tab1 0 rfl (fun B h => froRow (h.ok 1 _ rfl) (by decide))
      simp only [List.set_cons_zero, List.set_cons_succ] at q4
      simp -implicitDefEqProofs only [kz, kk0, kk1, kk2, kk3, ↓two_true, ↓two_false, mkv, aggAt, Nat.reduceLeDiff, Nat.reduceSub, Nat.reduceMul, implies_true, Nat.reduceEqDiff, reduceIte, Nat.reduceAdd, Nat.reduceBEq, reduceCtorEq, al39, bd39, bd77, bs37_1, bs64_2, ld39, st39, h0, h2, h3, q4.rd 2 rfl]
      refine st_set q4 2 rfl fun H5 q5 => ?_
      simp only [List.set_cons_zero, List.set_cons_succ] at q5
      simp -implicitDefEqProofs only [kz, kk0, kk1, kk2, kk3, ↓two_true, ↓two_false, mkv, aggAt, Nat.reduceLeDiff, Nat.reduceSub, Nat.reduceMul, implies_true, Nat.reduceEqDiff, reduceIte, Nat.reduceAdd, Nat.reduceBEq, reduceCtorEq, al39, bd39, bd77, bs37_1, bs64_2, ld39, st39, h0, h2, h3, q5.rd 2 rfl]
      have q6 := q5.front 3 [0] (by decide) rfl
      simp only [List.filterMap_cons, List.filterMap_nil, List.getElem?_cons_zero, List.getElem?_cons_succ, List.drop_succ_cons, List.drop_zero, List.cons_append, List.nil_append] at q6
      refine ⟨_, 1, 7, _, _, rfl, q6, by decide, ?_⟩
      rw [ndL_one rfl]
      exact PT.leaf (by decide) (show (1 : Int) < 3 by decide)

theorem loF_app {k : Nat} : ∀ {l r : List Int}, l.length = k → loF k (l ++ r) = loF k l := by
  induction k with
  | zero => intro l r _; rfl
  | succ k ih =>
    intro l r h
    cases l with
    | nil => simp at h
    | cons x t =>
      simp only [List.cons_append, loF, List.headD_cons, List.tail_cons]
      rw [ih (by simpa using h)]
theorem loF_un {k : Nat} : ∀ {y : Int}, 0 ≤ y → y < 256 ^ k → loF k ((List.range k).map fun j : Nat => IntKind.u8.wrap (y.fdiv (2 ^ (8 * j)))) = y := by
  induction k with
  | zero => intro y h0 h1; simp at h1; simp [loF]; omega
  | succ k ih =>
    intro y h0 h1
    rw [List.range_succ_eq_map, List.map_cons, List.map_map, loF, List.headD_cons, List.tail_cons]
    have e : ((List.range k).map ((fun j : Nat => IntKind.u8.wrap (y.fdiv (2 ^ (8 * j)))) ∘ Nat.succ)) = (List.range k).map fun j : Nat => IntKind.u8.wrap ((y / 256).fdiv (2 ^ (8 * j))) := by
      refine List.map_congr_left fun j _ => ?_
      simp only [Function.comp_apply]
      congr 1
      rw [Int.fdiv_eq_ediv_of_nonneg _ (Int.le_of_lt (Int.pow_pos (by decide))), Int.fdiv_eq_ediv_of_nonneg _ (Int.le_of_lt (Int.pow_pos (by decide)))]
      rw [show 8 * (Nat.succ j) = 8 + 8 * j by omega, Int.pow_add, show (2 : Int) ^ 8 = 256 by decide, ← Int.ediv_ediv_of_nonneg (by decide)]
    rw [e, ih (by omega) (by rw [Int.pow_succ] at h1; omega)]
    simp only [Nat.mul_zero, Int.pow_zero, Int.fdiv_one]
    rw [u8_mod]
    omega
theorem loF_le8 {y : Int} {r : List Int} (h0 : 0 ≤ y) (h1 : y < 18446744073709551616) : loF 8 (le8 y ++ r) = y := by
  rw [loF_app le8_len]
  exact loF_un h0 (by have e2 : (256 : Int) ^ 8 = 18446744073709551616 := by decide
                      omega)
theorem rdNums_of {r : List Int} : ∀ {xs : List Int}, xs.all numOk = true → rdNums nfI xs.length ((xs.flatMap fun n => le8 (n + 1000000000000)) ++ r) = some (xs, r)
  | [], _ => rfl
  | x :: t, h => by
    simp only [List.all_cons, Bool.and_eq_true] at h
    have hx : -1000000000000 ≤ x ∧ x ≤ 1000000000000 := by simpa [numOk, inB] using h.1
    rw [List.length_cons, List.flatMap_cons, List.append_assoc, rdNums]
    rw [if_neg (by rw [List.length_append, le8_len]; omega), loF_le8 (by omega) (by omega)]
    have e : nfI (x + 1000000000000) = some x := by unfold nfI; rw [if_neg (by omega)]; congr 1; omega
    have ed : (le8 (x + 1000000000000) ++ ((t.flatMap fun n => le8 (n + 1000000000000)) ++ r)).drop 8 = (t.flatMap fun n => le8 (n + 1000000000000)) ++ r := by
      have := List.drop_left (l₁ := le8 (x + 1000000000000)) (l₂ := (t.flatMap fun n => le8 (n + 1000000000000)) ++ r)
      rw [le8_len] at this
      exact this
    rw [e, ed]
    simp only
    rw [rdNums_of h.2]
    rfl
def insC (x : Ins) : List CV := [.i x.op, .i x.a, .i x.s, .i x.o, .i x.w, .r x.nums]
theorem sg_rng {s : Int} : (sg1 s = true ∨ sg2 s = true) → 0 ≤ s ∧ s ≤ 255 := by
  unfold sg1 sg2
  simp only [Bool.or_eq_true, beq_iff_eq]
  omega
theorem insOk_rng {x : Ins} (h : insOk x = true) : (0 ≤ x.op ∧ x.op ≤ 255) ∧ (0 ≤ x.a ∧ x.a ≤ 255) ∧ (0 ≤ x.s ∧ x.s ≤ 255) ∧ (0 ≤ x.o ∧ x.o ≤ 255) ∧ (0 ≤ x.w ∧ x.w ≤ 255) ∧ (x.op ≠ 1 → x.nums = []) := by
  unfold insOk at h
  simp only [Bool.or_eq_true, Bool.and_eq_true, beq_iff_eq, inB, decide_eq_true_eq] at h
  have hl : x.op ≠ 1 → x.nums = [] := fun hne => by
    refine List.eq_nil_of_length_eq_zero ?_
    omega
  rcases h with ((h | h) | h) | h
  · exact ⟨by omega, by omega, by omega, by omega, by omega, hl⟩
  · exact ⟨by omega, by omega, by omega, by omega, by omega, hl⟩
  · obtain ⟨h1, h2, h3, h4⟩ := h
    unfold funOne at h3
    simp only [Bool.or_eq_true, Bool.and_eq_true, beq_iff_eq] at h3
    have hs : 0 ≤ x.s ∧ x.s ≤ 255 := by
      rcases h3.2 with h5 | h5
      · rcases h5.2 with h6 | h6
        · exact sg_rng (.inl h6)
        · omega
      · exact sg_rng (.inr h5.2)
    exact ⟨by omega, by omega, hs, by omega, by omega, hl⟩
  · obtain ⟨h1, h2, h3, h4⟩ := h
    unfold funTwo at h3
    simp only [Bool.or_eq_true, Bool.and_eq_true, beq_iff_eq] at h3
    rcases h3 with h5 | h5
    · exact ⟨by omega, by omega, sg_rng (.inr h5.2.1), by omega, sg_rng (.inr h5.2.2), hl⟩
    · have hs : 0 ≤ x.s ∧ x.s ≤ 255 := by
        rcases h5.2 with h6 | h6
        · exact sg_rng (.inr h6.2)
        · rcases h6.2 with h7 | h7
          · exact sg_rng (.inr h7)
          · omega
      exact ⟨by omega, by omega, hs, by omega, by omega, hl⟩
theorem rdIns_of {x : Ins} {r : List Int} (h : insOk x = true) : rdIns nfI (pkI x ++ r) = some (insC x, r) := by
  obtain ⟨h1, h2, h3, h4, h5, h6⟩ := insOk_rng h
  have e5 : [x.op, x.a, x.s, x.o, x.w].map IntKind.u8.wrap = [x.op, x.a, x.s, x.o, x.w] := by simp [u8_inB h1, u8_inB h2, u8_inB h3, u8_inB h4, u8_inB h5]
  unfold pkI
  rw [e5]
  by_cases hop : x.op = 1
  · have hn := insOk_nums h hop
    simp only [numsOk, inB, Bool.and_eq_true, decide_eq_true_eq] at hn
    rw [if_pos hop]
    have l1 : IntKind.u8.wrap (x.nums.length : Int) = (x.nums.length : Int) % 256 := u8_mod
    have l2 : IntKind.u8.wrap ((x.nums.length : Int) / 256) = (x.nums.length : Int) / 256 := u8_inB (by omega)
    rw [l1, l2]
    unfold rdIns
    simp only [List.cons_append, List.nil_append, List.headD_cons, List.tail_cons, List.drop_succ_cons, List.drop_zero, List.length_cons, List.append_assoc]
    rw [if_neg (by omega), if_pos hop, if_neg (by omega)]
    have e : (loF 2 ((x.nums.length : Int) % 256 :: (x.nums.length : Int) / 256 :: ((x.nums.flatMap fun n => le8 (n + 1000000000000)) ++ r))).toNat = x.nums.length := by
      simp only [loF, List.headD_cons, List.tail_cons]
      omega
    rw [e, rdNums_of hn.2]
    rfl
  · rw [if_neg hop, List.append_nil]
    unfold rdIns
    simp only [List.cons_append, List.nil_append, List.headD_cons, List.tail_cons, List.drop_succ_cons, List.drop_zero, List.length_cons]
    rw [if_neg (by omega), if_neg hop]
    unfold insC
    rw [h6 hop]
theorem rdAll_of {r : List Int} : ∀ {l : List Ins}, l.all insOk = true → rdAll nfI l.length (l.flatMap pkI ++ r) = some (l.flatMap insC, r)
  | [], _ => rfl
  | x :: t, h => by
    simp only [List.all_cons, Bool.and_eq_true] at h
    rw [List.length_cons, List.flatMap_cons, List.append_assoc, rdAll, rdIns_of h.1]
    simp only
    rw [rdAll_of h.2]
    rfl
theorem insOf_C {x : Ins} : insOf (insC x) = x := rfl
theorem insL_C : ∀ {l : List Ins}, insL (l.flatMap insC) l.length = l
  | [] => rfl
  | x :: t => by
    rw [List.flatMap_cons, List.length_cons, insL_cons rfl, insL_C, insOf_C]
/-- What is packed is read as it was. -/
theorem rdR_pk {l : List Ins} (h : cdOk l = true) : rdR (pkA l) = some (l.flatMap insC) := by
  have h2 := h
  unfold cdOk at h2
  simp only [Bool.and_eq_true, inB, decide_eq_true_eq] at h2
  unfold pkA
  rw [if_pos h]
  unfold pkG
  rw [u8_inB (by omega)]
  simp only [rdR, Int.toNat_natCast]
  have := rdAll_of (r := []) h2.2.1
  rw [List.append_nil] at this
  rw [this]
  simp only
  exact if_pos (by rw [insL_C]; exact h)
theorem FRow.insV {H : AH} {v : Value} {n : Nat} {xs : List Value} (f : FRow H v kInstr n xs) : cvs H xs = (insL (cvs H xs) n).flatMap insC := by
  have hx : xs.length = n * 6 := f.len
  have hl : (cvs H xs).length = n * 6 := by simp [cvs, hx]
  have key : ∀ k, k ≤ n → (cvs H xs).take (k * 6) = ((insL (cvs H xs) n).take k).flatMap insC := by
    intro k
    induction k with
    | zero => intro _; simp
    | succ k ih =>
      intro hk
      have hx1 := f.elemn 6 rfl (i := k) (by omega)
      obtain ⟨op, a, s, o, w, y, ex, ky, e⟩ := all2_instr hx1
      have hg := insL_get (H := H) (xs := xs) (n := n) (i := k) (by omega)
      rw [e] at hg
      rw [List.take_add_one, hg, List.flatMap_append, ← ih (by omega), show (k + 1) * 6 = k * 6 + 6 by omega, List.take_add]
      congr 1
      have e3 : ((cvs H xs).drop (k * 6)).take 6 = (elm 6 xs k).map (cv H) := by simp [elm, cvs]
      rw [e3, ex]
      simp only [List.map_cons, List.map_nil, cv_int, cv_row ky.1, Option.toList_some, List.flatMap_cons, List.flatMap_nil, List.append_nil, insC]
  have := key n (Nat.le_refl _)
  rw [List.take_of_length_le (by omega), List.take_of_length_le (by rw [insL_len]; exact Nat.le_refl _)] at this
  exact this
theorem FRow.ext2 {H H' : AH} {v : Value} {ks : List CK} {n : Nat} {xs : List Value} (h : FRow H v ks n xs) (he : ∃ K, H' = H ++ K) : FRow H' v ks n xs ∧ cvs H' xs = cvs H xs := by
  obtain ⟨K, rfl⟩ := he
  exact ⟨h.mono, h.vals⟩

theorem aggThree {cs : List Value} {o : Nat} {x y z : Value} (h0 : cs[o]? = some x) (h1 : cs[o + 1]? = some y) (h2 : cs[o + 2]? = some z) : aggAt 3 o cs = some (.agg #[x, y, z]) := by
  have l2 := (List.getElem?_eq_some_iff.1 h2).1
  unfold aggAt
  rw [if_pos (by omega)]
  have : (cs.drop o).take 3 = [x, y, z] := by
    refine List.ext_getElem? fun j => ?_
    match j with
    | 0 => rw [List.getElem?_take_of_lt (by decide), List.getElem?_drop]; exact h0
    | 1 => rw [List.getElem?_take_of_lt (by decide), List.getElem?_drop]; exact h1
    | 2 => rw [List.getElem?_take_of_lt (by decide), List.getElem?_drop]; exact h2
    | j + 3 => rw [List.getElem?_eq_none (by simp; omega), List.getElem?_eq_none (by simp)]
  rw [this]
theorem elm_map6 {s i : Nat} {H : AH} {xs ys : List Value} (h : cvs H xs = cvs H ys) : (elm s xs i).map (cv H) = (elm s ys i).map (cv H) := by
  have e := congrArg (fun l : List CV => (l.drop (i * s)).take s) h
  simpa [elm, cvs] using e
set_option maxHeartbeats 4000000 in
theorem sameCode_ok {H : AH} {v w : Value} {n : Nat} {xs ys : List Value} (hv : FRow H v kInstr n xs) (hw : FRow H w kInstr n ys) (hl : n ≤ 1073741824) (he : cvs H xs = cvs H ys) :
    CallsA Try.prog 27 #[v, w] H fun r H' => r = .bool true ∧ H' = H := by
  obtain ⟨a, c, rfl, gv⟩ := hv.opn 6 rfl
  obtain ⟨a', c', rfl, gw⟩ := hw.opn 6 rfl
  refine w27 ?_
  unfold k27
  simp -implicitDefEqProofs only [kz, kk0, kk1, kk2, kk3, ↓two_true, ↓two_false, oS_some, oM_some, mkv, aggAt, Nat.reduceLeDiff, Nat.reduceSub, Nat.reduceMul, implies_true, Nat.reduceEqDiff, reduceIte, Nat.reduceAdd, Nat.reduceBEq, reduceCtorEq, ef63, eg63, fa66_0, fa66_1, fa66_2, fa66_3, ix29, ld3, ld63, ld64, ln29, bne_self_eq_false]
  refine rW_loop (σ := Nat) (fun i tm H' => tm 0 = .slice a n c ∧ tm 1 = .slice a' n c' ∧ tm 5 = .int .i64 i ∧ H' = H ∧ i ≤ n) (fun i => n - i) 0 ?_ ?_
  · exact ⟨rfl, rfl, rfl, rfl, Nat.zero_le _⟩
  · rintro i tm H' ⟨h0, h1, h5, rfl, hi⟩
    simp -implicitDefEqProofs only [kz, kk0, kk1, kk2, kk3, ↓two_true, ↓two_false, oS_some, oM_some, mkv, aggAt, Nat.reduceLeDiff, Nat.reduceSub, Nat.reduceMul, implies_true, Nat.reduceEqDiff, reduceIte, Nat.reduceAdd, Nat.reduceBEq, reduceCtorEq, ef63, eg63, fa66_0, fa66_1, fa66_2, fa66_3, ix29, ld3, ld63, ld64, ln29, h0, h1, h5]
    refine two_intro (fun hc => ?_) (fun hc => ?_)
    · have hc' : i < n := by simpa using hc
      obtain ⟨b, o, cs, rfl, rfl, hrd, hle, hcell⟩ := gv (by omega)
      obtain ⟨b', o', cs', rfl, rfl, hrd', hle', hcell'⟩ := gw (by omega)
      have x1 := hv.elemn 6 rfl hc'
      have x2 := hw.elemn 6 rfl hc'
      have em := elm_map6 (s := 6) (i := i) he
      have d1 := (hcell i hc').2
      have d2 := (hcell' i hc').2
      generalize elm 6 xs i = ex at *
      generalize elm 6 ys i = ey at *
      obtain ⟨op, ia, is, io, iw, y, rfl, ky, -⟩ := all2_instr x1
      obtain ⟨op2, ia2, is2, io2, iw2, y2, rfl, ky2, -⟩ := all2_instr x2
      simp only [List.map_cons, List.map_nil, cv_int, cv_row ky.1, cv_row ky2.1, List.cons.injEq, CV.i.injEq, CV.r.injEq, and_true] at em
      obtain ⟨rfl, rfl, rfl, rfl, rfl, em⟩ := em
      have i1 : IntRow H' y (rowI H' y) := ky.1
      have i2 : IntRow H' y2 (rowI H' y2) := ky2.1
      rw [← em] at i2
      have hsz := ky.2
      have hsi := fun Φ => (sameInts_ok i1 i2 (by omega)).eq0 (Φ := Φ)
      have a0 := d1 0 _ rfl
      have a1 := d1 1 _ rfl
      have a2 := d1 2 _ rfl
      have a3 := d1 3 _ rfl
      have a4 := d1 4 _ rfl
      have a5 := d1 5 _ rfl
      have b0 := d2 0 _ rfl
      have b1 := d2 1 _ rfl
      have b2 := d2 2 _ rfl
      have b3 := d2 3 _ rfl
      have b4 := d2 4 _ rfl
      have b5 := d2 5 _ rfl
      rw [Nat.add_zero] at a0 b0
      have r1 := row_lt (s := 6) hc'
      have e1 : ld Try.prog 63 (o + i * 6 + 2) cs = some (.agg #[.int .i64 is, .int .i64 io, .int .i64 iw]) := by
        rw [ld63]
        exact aggThree a2 a3 a4
      have e2 : ld Try.prog 63 (o' + i * 6 + 2) cs' = some (.agg #[.int .i64 is, .int .i64 io, .int .i64 iw]) := by
        rw [ld63]
        exact aggThree b2 b3 b4
      simp -implicitDefEqProofs only [kz, kk0, kk1, kk2, kk3, ↓two_true, ↓two_false, oS_some, oM_some, mkv, aggAt, Nat.reduceLeDiff, Nat.reduceSub, Nat.reduceMul, implies_true, Nat.reduceEqDiff, reduceIte, Nat.reduceAdd, Nat.reduceBEq, reduceCtorEq, ef63, eg63, fa66_0, fa66_1, fa66_2, fa66_3, ix29, ld3, ld63, ld64, ln29, h0, h1, h5, Int.toNat_natCast, hrd, hrd', a0, a1, a5, b0, b1, b5, e1, e2, hsi, bne_self_eq_false, beq_self_eq_true, Bool.not_true, IntWalk.i64_in (↑i + 1) (by omega)]
      have gi : (0 : Int) ≤ (i : Int) ∧ (i : Int) < (n : Int) := by omega
      exact ⟨gi, gi, gi, gi, gi, gi, gi, gi, i + 1, by omega, rfl, hc'⟩
    · try simp -implicitDefEqProofs only [kz, kk0, kk1, kk2, kk3, ↓two_true, ↓two_false, oS_some, oM_some, mkv, aggAt, Nat.reduceLeDiff, Nat.reduceSub, Nat.reduceMul, implies_true, Nat.reduceEqDiff, reduceIte, Nat.reduceAdd, Nat.reduceBEq, reduceCtorEq, ef63, eg63, fa66_0, fa66_1, fa66_2, fa66_3, ix29, ld3, ld63, ld64, ln29, h0, h1, h5]

theorem lit6 {B : Nat → Prop} {c0 : Option Nat} {H0 H : AH} {L : List Ix} {b : Nat} {k a s o w : Int} {p : Value} {l : List Int} (h : LB B c0 H0 H L) (j : Nat) (hj : L[j]? = some (.own (.box b [.int .i64 k, .int .i64 a, .int .i64 s, .int .i64 o, .int .i64 w, p]))) (hp : KOk H .r p ∧ rowI H p = l ∧ ∀ g, blkOf p = some g → B g) :
    FRow H (.slice (some ⟨b, 0, none⟩) 1 6) kInstr 1 [.int .i64 k, .int .i64 a, .int .i64 s, .int .i64 o, .int .i64 w, p] ∧ cvs H [.int .i64 k, .int .i64 a, .int .i64 s, .int .i64 o, .int .i64 w, p] = [.i k, .i a, .i s, .i o, .i w, .r l] ∧ ∀ y ∈ [.int .i64 k, .int .i64 a, .int .i64 s, .int .i64 o, .int .i64 w, p], ∀ g, blkOf y = some g → B g := by
  have hb : H[b]? = some ⟨[.int .i64 k, .int .i64 a, .int .i64 s, .int .i64 o, .int .i64 w, p], .own⟩ := h.ok j _ hj
  obtain ⟨p1, p2, p3⟩ := hp
  refine ⟨⟨rfl, .inr ⟨b, 0, _, rfl, rd_own hb, by simp [kInstr], fun j y hy => by rw [Nat.zero_add]; exact hy⟩, ?_⟩, ?_, ?_⟩
  · intro i c kk y hi hk hy
    obtain rfl : i = 0 := by omega
    match c with
    | 0 => simp [kInstr] at hk hy; subst hk; subst hy; exact ⟨_, rfl⟩
    | 1 => simp [kInstr] at hk hy; subst hk; subst hy; exact ⟨_, rfl⟩
    | 2 => simp [kInstr] at hk hy; subst hk; subst hy; exact ⟨_, rfl⟩
    | 3 => simp [kInstr] at hk hy; subst hk; subst hy; exact ⟨_, rfl⟩
    | 4 => simp [kInstr] at hk hy; subst hk; subst hy; exact ⟨_, rfl⟩
    | 5 => simp [kInstr] at hk hy; subst hk; subst hy; exact p1
    | c + 6 => simp [kInstr] at hk
  · simp only [cvs, List.map_cons, List.map_nil, cv_int, cv_row p1.1, p2]
  · intro y hy g hg
    simp only [List.mem_cons, List.not_mem_nil, or_false] at hy
    rcases hy with rfl | rfl | rfl | rfl | rfl | rfl
    · simp [blkOf] at hg
    · simp [blkOf] at hg
    · simp [blkOf] at hg
    · simp [blkOf] at hg
    · simp [blkOf] at hg
    · exact p3 g hg
theorem st_app6 {c0 : Option Nat} {H0 H : AH} {L : List Ix} {Φ : Value → AH → Prop} {v : Value} {n b : Nat} {xs : List Value} {V : List CV} {k a s o w : Int} {p : Value} {l : List Int} (q : LX c0 H0 H L) (i j : Nat) (hi : L[i]? = some (.tab v kInstr n xs V)) (hj : L[j]? = some (.own (.box b [.int .i64 k, .int .i64 a, .int .i64 s, .int .i64 o, .int .i64 w, p])))
    (hp : ∀ B, LB B c0 H0 H L → KOk H .r p ∧ rowI H p = l ∧ ∀ g, blkOf p = some g → B g) (hl : n + 1 ≤ 1073741824)
    (hk : ∀ a2 c2 H' ys, LX c0 H0 H' (L.set i (.tab (.slice a2 (n + 1) c2) kInstr (n + 1) ys (V ++ [.i k, .i a, .i s, .i o, .i w, .r l]))) → Φ (.slice a2 (n + 1) c2) H') : oA (app 6 v (.slice (some ⟨b, 0, none⟩) 1 6) H) Φ :=
  st_appT 6 rfl q i hi (fun _ h => lit6 h j hj (hp _ h)) hl fun a2 c2 H' g => hk a2 c2 H' _ g
theorem LX.tabOp6 {c0 : Option Nat} {H0 H : AH} {L : List Ix} {na : Option Addr} {n nc : Nat} {xs : List Value} {V : List CV} (q : LX c0 H0 H L) (i : Nat) (hi : L[i]? = some (.tab (.slice na n nc) kInstr n xs V)) (h0 : 0 < n) :
    ∃ b o cs, na = some ⟨b, o, none⟩ ∧ nc = 6 ∧ H[b]? = some ⟨cs, .own⟩ ∧ o + n * 6 ≤ cs.length := by
  obtain ⟨B, h⟩ := q
  rcases (h.ok i _ hi).1.row with ⟨_, e⟩ | ⟨b, o, cs, e, h1, h2, _⟩
  · omega
  · simp only [Value.slice.injEq, true_and] at e
    exact ⟨b, o, cs, e.1, e.2, h1, h2⟩
theorem LX.tabSet6 {c0 : Option Nat} {H0 H : AH} {L : List Ix} {b o n : Nat} {xs cs : List Value} {V : List CV} (q : LX c0 H0 H L) (i : Nat) (hi : L[i]? = some (.tab (.slice (some ⟨b, o, none⟩) n 6) kInstr n xs V)) (hb : H[b]? = some ⟨cs, .own⟩) (hle : o + n * 6 ≤ cs.length) (cs' : List Value) (hlen : cs'.length = cs.length)
    (hc : ∀ (d c : Nat) y, d < n → c < 6 → cs'[o + d * 6 + c]? = some y → cs[o + d * 6 + c]? = some y ∨ (c < 5 ∧ ∃ x, y = .int .i64 x)) :
    ∃ xs' V', LX c0 H0 (H.set b ⟨cs', .own⟩) (L.set i (.tab (.slice (some ⟨b, o, none⟩) n 6) kInstr n xs' V')) := by
  obtain ⟨B, h⟩ := q
  obtain ⟨t, -⟩ := h.ok i _ hi
  have hBb : ¬ B b := (h.fr i _ hi b rfl).1
  have hs : ∀ g, B g → (H.set b ⟨cs', .own⟩ : AH)[g]? = H[g]? := fun g hg => List.getElem?_set_ne (by rintro rfl; exact hBb hg)
  have hrow : ∀ (j : Nat) y, xs[j]? = some y → cs[o + j]? = some y := by
    rcases t.row with ⟨e, _⟩ | ⟨b2, o2, cs2, e, h1, h2, h3⟩
    · cases e
    · simp only [Value.slice.injEq, Option.some.injEq, Addr.mk.injEq, true_and] at e
      obtain ⟨⟨rfl, rfl, -⟩, -⟩ := e
      rw [hb] at h1
      cases h1
      exact h3
  have hxl : xs.length = n * 6 := t.len
  have old : ∀ (d c : Nat) (kk : CK) y, d < n → kInstr[c]? = some kk → cs'[o + d * 6 + c]? = some y → KOk (H.set b ⟨cs', .own⟩) kk y ∧ ∀ g, blkOf y = some g → B g := by
    intro d c kk y hd hk hy
    have hc6 : c < 6 := by have := (List.getElem?_eq_some_iff.1 hk).1; simpa [kInstr] using this
    rcases hc d c y hd hc6 hy with h1 | ⟨h5, x, rfl⟩
    · have hj : d * 6 + c < xs.length := by omega
      have h2 := hrow (d * 6 + c) _ (List.getElem?_eq_getElem hj)
      rw [← Nat.add_assoc, h1] at h2
      simp only [Option.some.injEq] at h2
      have h3 : xs[d * 6 + c]? = some y := by rw [h2]; exact List.getElem?_eq_getElem hj
      have hbase : ∀ g, blkOf y = some g → B g := fun g hg => t.base y (List.mem_of_getElem? h3) g hg
      exact ⟨(t.cell d c kk y hd hk h3).same fun g hg => get_rd (hs g (hbase g hg)), hbase⟩
    · refine ⟨?_, fun g hg => by simp [blkOf] at hg⟩
      have : kk = .i := by
        have : c = 0 ∨ c = 1 ∨ c = 2 ∨ c = 3 ∨ c = 4 := by omega
        rcases this with rfl | rfl | rfl | rfl | rfl <;> (simp [kInstr] at hk; exact hk.symm)
      subst this
      exact ⟨x, rfl⟩
  have hget : ∀ (j : Nat) y, ((cs'.drop o).take (n * 6))[j]? = some y → j < n * 6 ∧ cs'[o + j]? = some y := by
    intro j y hy
    have hj : j < n * 6 := by
      have := (List.getElem?_eq_some_iff.1 hy).1
      simp at this; omega
    rw [List.getElem?_take_of_lt hj, List.getElem?_drop] at hy
    exact ⟨hj, hy⟩
  refine ⟨(cs'.drop o).take (n * 6), _, B, h.upd (H' := H.set b ⟨cs', .own⟩) i hi (by simp) (fun g hg hn => List.getElem?_set_ne (by rintro rfl; exact hn rfl)) ⟨⟨?_, .inr ⟨b, o, cs', rfl, set_at hb, ?_, fun j y hy => (hget j y hy).2⟩, ?_, ?_⟩, rfl⟩ fun g hg => .inl hg⟩
  · show _ = n * 6
    simp; omega
  · show o + n * 6 ≤ _
    omega
  · intro d c kk y hd hk hy
    have := (hget _ y hy).2
    rw [show kInstr.length = 6 from rfl, ← Nat.add_assoc] at this
    exact (old d c kk y hd hk this).1
  · intro y hy g hg
    obtain ⟨j, hj⟩ := List.mem_iff_getElem?.1 hy
    obtain ⟨h1, h2⟩ := hget j y hj
    have hd : j / 6 < n := by omega
    have e : o + j / 6 * 6 + j % 6 = o + j := by omega
    have hk : ∃ kk, kInstr[j % 6]? = some kk := ⟨kInstr[j % 6]'(by simp [kInstr]; omega), List.getElem?_eq_getElem _⟩
    obtain ⟨kk, hk⟩ := hk
    exact (old (j / 6) (j % 6) kk y hd hk (by rw [e]; exact h2)).2 g hg
theorem LX.tabTk6 {c0 : Option Nat} {H0 H : AH} {L : List Ix} {b o n : Nat} {xs : List Value} {V : List CV} (q : LX c0 H0 H L) (i : Nat) (hi : L[i]? = some (.tab (.slice (some ⟨b, o, none⟩) n 6) kInstr n xs V)) (k : Nat) (hk : k ≤ n) :
    ∃ V', LX c0 H0 H (L.set i (.tab (.slice (some ⟨b, o, none⟩) k 6) kInstr k (xs.take (k * 6)) V')) := by
  obtain ⟨B, h⟩ := q
  obtain ⟨t, -⟩ := h.ok i _ hi
  have hxl : xs.length = n * 6 := t.len
  have sub : ∀ (j : Nat) y, (xs.take (k * 6))[j]? = some y → xs[j]? = some y := fun j y hy => by
    have hj : j < k * 6 := by
      have := (List.getElem?_eq_some_iff.1 hy).1
      simp at this; omega
    rw [List.getElem?_take_of_lt hj] at hy
    exact hy
  refine ⟨_, B, h.upd i hi (Nat.le_refl _) (fun _ _ _ => rfl) ⟨⟨?_, ?_, ?_, ?_⟩, rfl⟩ fun g hg => .inl hg⟩
  · show _ = k * 6
    simp; omega
  · rcases t.row with ⟨e, _⟩ | ⟨b2, o2, cs2, e, h1, h2, h3⟩
    · cases e
    · simp only [Value.slice.injEq, Option.some.injEq, Addr.mk.injEq, true_and] at e
      obtain ⟨⟨rfl, rfl, -⟩, -⟩ := e
      refine .inr ⟨b, o, cs2, rfl, h1, ?_, fun j y hy => h3 j y (sub j y hy)⟩
      have h2 : o + n * 6 ≤ cs2.length := h2
      show o + k * 6 ≤ _
      omega
  · intro d c kk y hd hk2 hy
    exact t.cell d c kk y (by omega) hk2 (sub _ y hy)
  · intro y hy
    exact t.base y (List.mem_of_mem_take hy)
theorem set_cell6 {cs : List Value} {o i k : Nat} {x : Int} (hk : k < 5) : ∀ (d c : Nat) (y : Value), c < 6 → (cs.set (o + i * 6 + k) (.int .i64 x))[o + d * 6 + c]? = some y → cs[o + d * 6 + c]? = some y ∨ (c < 5 ∧ ∃ x, y = .int .i64 x) := by
  intro d c y hc h
  rcases Nat.decEq (o + i * 6 + k) (o + d * 6 + c) with e | e
  · rw [List.getElem?_set_ne e] at h; exact .inl h
  · rw [← e, List.getElem?_set] at h
    simp only [if_true] at h
    split at h
    · simp only [Option.some.injEq] at h; exact .inr ⟨by omega, x, h.symm⟩
    · cases h
theorem LB.fz9 {B B' : Nat → Prop} {c : Option Nat} {H0 H : AH} {L : List Ix} {x x' : Ix} (h : LB B c H0 H L) (i : Nat) (hi : L[i]? = some x) (hB : ∀ b, B' b ↔ (B b ∨ (x.bs b ∧ ¬ x'.bs b))) (hx : x'.ok B' H) (hb : ∀ b, x'.bs b → x.bs b) : LB B' c H0 H (L.set i x') := by
  have hil := (List.getElem?_eq_some_iff.1 hi).1
  have get : ∀ (j : Nat) y, (L.set i x')[j]? = some y → (j = i ∧ y = x') ∨ (j ≠ i ∧ L[j]? = some y) := fun j y hy => by
    rcases Nat.decEq i j with e | e
    · rw [List.getElem?_set_ne e] at hy; exact .inr ⟨Ne.symm e, hy⟩
    · subst e; rw [List.getElem?_set_self hil] at hy; cases hy; exact .inl ⟨rfl, rfl⟩
  refine ⟨fun j y hy => ?_, fun j y hy b hb2 => ?_, fun j k y z hne hy hz b e1 e2 => ?_, h.len, h.keep, fun b hb hn => (hB b).2 (.inl (h.b0 b hb hn)), fun b hb => ?_, h.cur, fun cb e j y hy h2 => ?_⟩
  · rcases get j y hy with ⟨rfl, rfl⟩ | ⟨hne, hy⟩
    · exact hx
    · exact (h.ok j y hy).same (fun b _ => rfl) (fun b _ => rfl) fun b hb => (hB b).2 (.inl hb)
  · rcases get j y hy with ⟨rfl, rfl⟩ | ⟨hne, hy⟩
    · refine ⟨fun e => ?_, (h.fr j x hi b (hb b hb2)).2⟩
      rcases (hB b).1 e with e | e
      · exact (h.fr j x hi b (hb b hb2)).1 e
      · exact e.2 hb2
    · refine ⟨fun e => ?_, (h.fr j y hy b hb2).2⟩
      rcases (hB b).1 e with e | e
      · exact (h.fr j y hy b hb2).1 e
      · exact h.dj j i y x hne hy hi b hb2 e.1
  · rcases get j y hy with ⟨rfl, rfl⟩ | ⟨hne1, hy'⟩
    · rcases get k z hz with ⟨rfl, rfl⟩ | ⟨hne2, hz⟩
      · exact hne rfl
      · exact h.dj j k x z hne hi hz b (hb b e1) e2
    · rcases get k z hz with ⟨rfl, rfl⟩ | ⟨hne2, hz⟩
      · exact h.dj j k y x hne hy' hi b e1 (hb b e2)
      · exact h.dj j k y z hne hy' hz b e1 e2
  · rcases (hB b).1 hb with e | e
    · exact h.bl b e
    · exact ⟨(h.ok i x hi).lt b e.1, fun e2 => h.nc b e2 i x hi e.1⟩
  · rcases get j y hy with ⟨rfl, rfl⟩ | ⟨hne1, hy'⟩
    · exact h.nc cb e j x hi (hb cb h2)
    · exact h.nc cb e j y hy' h2
/-- A table whose rows are turned no more. -/
theorem LX.cmpTab {c : Option Nat} {H0 H : AH} {L : List Ix} {v : Value} {ks : List CK} {n : Nat} {xs : List Value} {V : List CV} (h : LX c H0 H L) (i : Nat) (hi : L[i]? = some (.own (.cmp (.row v ks n xs) V))) : LX c H0 H (L.set i (.tab v ks n xs V)) := by
  obtain ⟨B, h⟩ := h
  obtain ⟨h1, h2⟩ := h.ok i _ hi
  have h1 : OT H v ks n xs := h1
  refine ⟨fun b => B b ∨ ((Comp.row v ks n xs).bs b ∧ ¬ blkOf v = some b), h.fz9 i hi (fun b => Iff.rfl) ⟨⟨h1.len, h1.row, h1.ok, fun y hy b hb => .inr ⟨.inr ⟨y, hy, hb⟩, fun e => ?_⟩⟩, h2⟩ fun b hb => .inl hb⟩
  obtain ⟨j, hj⟩ := List.mem_iff_getElem?.1 hy
  exact h1.out j y hj b e hb
theorem LX.newC {c0 : Option Nat} {H0 H H' : AH} {L : List Ix} {v : Value} {ks : List CK} {n : Nat} {ys : List Value} {V : List CV} (h : LX c0 H0 H L) (hv : New H H' v ks n ys) (hV : cvs H' ys = V) (hf : ∃ K, H' = H ++ K) : LX c0 H0 H' (.own (.cmp (.row v ks n ys) V) :: L) := by
  obtain ⟨B, h⟩ := h
  obtain ⟨K, rfl⟩ := hf
  exact ⟨B, h.add (by simp) (fun b hb _ => List.getElem?_append_left hb) (fun g e => (h.cur g e).mono) ⟨hv.ot, hV⟩ fun b hb => hv.fr b hb⟩

set_option maxHeartbeats 4000000 in
theorem l11DrawRight_ok {H0 H : AH} {L : List Ix} {cb : Nat} (q : LX (some cb) H0 H L) :
    CallsA Try.prog 67 #[.pointer (some ⟨cb, 0, none⟩)] H fun r H' => ∃ (a : Option Addr) (m c : Nat) (ys : List Value) (V : List CV), r = .slice a m c ∧ LX (some cb) H0 H' (.own (.cmp (.row (.slice a m c) kInstr m ys) V) :: L) ∧ 1 ≤ m ∧ m ≤ 60 ∧ ∀ l, CV.r l ∈ V → l.length ≤ 300 := by
  refine w67 ?_
  unfold k67
  simp -implicitDefEqProofs only [kz, kk0, kk1, kk2, kk3, ↓two_true, ↓two_false, mkv, aggAt, Nat.reduceLeDiff, Nat.reduceSub, Nat.reduceMul, implies_true, Nat.reduceEqDiff, reduceIte, Nat.reduceAdd, Nat.reduceBEq, reduceCtorEq]
  refine (l9DrawRight_ok q).mono ?_
  rintro _ H1 ⟨na, m, nc, xs, V, rfl, q1, hm, pt⟩
  simp -implicitDefEqProofs only [kz, kk0, kk1, kk2, kk3, ↓two_true, ↓two_false, mkv, aggAt, Nat.reduceLeDiff, Nat.reduceSub, Nat.reduceMul, implies_true, Nat.reduceEqDiff, reduceIte, Nat.reduceAdd, Nat.reduceBEq, reduceCtorEq]
  obtain ⟨f, hV⟩ := q1.tb 0 rfl
  refine (specCompile_ok f (by omega)).mono ?_
  rintro _ H2 ⟨⟨ga, gc, gm, gys, rfl, nw, gV, h60, hmn⟩, hK2⟩
  have htr : trOk (ndL (cvs H1 xs) m) = true := by rw [hV]; exact pt.tr (by rw [ndL_len]; exact hm)
  have hgm := hmn htr
  have hpos := pt.pos
  rw [ndL_len] at hpos
  have q2 := (q1.newC nw gV hK2).front 2 [0] (by decide) rfl
  simp only [List.filterMap_cons, List.filterMap_nil, List.getElem?_cons_zero, List.getElem?_cons_succ, List.drop_succ_cons, List.drop_zero, List.cons_append, List.nil_append] at q2
  simp -implicitDefEqProofs only [kz, kk0, kk1, kk2, kk3, ↓two_true, ↓two_false, mkv, aggAt, Nat.reduceLeDiff, Nat.reduceSub, Nat.reduceMul, implies_true, Nat.reduceEqDiff, reduceIte, Nat.reduceAdd, Nat.reduceBEq, reduceCtorEq]
  refine ⟨ga, gm, gc, gys, _, rfl, q2, by omega, h60, fun l hl => ?_⟩
  rw [if_pos htr] at hl
  unfold cpV at hl
  obtain ⟨x, hx, hl⟩ := List.mem_flatMap.1 hl
  have hok : (ndL (cvs H1 xs) m).all ndOk = true := by rw [hV]; exact pt.ok
  have hxo := List.all_eq_true.1 hok x hx
  simp only [cpI, List.mem_cons, CV.r.injEq, reduceCtorEq, false_or, List.not_mem_nil, or_false] at hl
  subst hl
  unfold ndOk numsOk at hxo
  simp only [Bool.or_eq_true, Bool.and_eq_true, beq_iff_eq, inB, decide_eq_true_eq] at hxo
  omega

theorem TabOk.row6 {B : Nat → Prop} {H : AH} {v : Value} {n : Nat} {xs : List Value} (t : TabOk B H v kInstr n xs) {i : Nat} (hi : i < n) {c0 c1 c2 c3 c4 p : Value} (he : elm 6 xs i = [c0, c1, c2, c3, c4, p]) : KOk H .r p ∧ ∀ g, blkOf p = some g → B g := by
  have h6 : xs[i * 6 + 5]? = some p := by
    have := elm_get (s := 6) (xs := xs) (i := i) (c := 5) (by decide)
    rw [he] at this
    exact this.symm
  exact ⟨t.cell i 5 .r p hi rfl h6, fun g hg => t.base p (List.mem_of_getElem? h6) g hg⟩
/-- A row of numbers in a table has grown. -/
theorem rowApp {B : Nat → Prop} {c : Option Nat} {H0 H H2 : AH} {L : List Ix} {b o n : Nat} {xs cs : List Value} {V : List CV} (h : LB B c H0 H L) (j : Nat) (hj : L[j]? = some (.own (.cmp (.row (.slice (some ⟨b, o, none⟩) n 6) kInstr n xs) V))) (hb : H[b]? = some ⟨cs, .own⟩) (hle : o + n * 6 ≤ cs.length) {i : Nat} (hi : i < n) {p p' : Value} (hp : cs[o + i * 6 + 5]? = some p) {l' : List Int} (ho : OwnRow H2 p' l') (hl : l'.length < 1073741825) (ha : App H p H2 p') :
    FRow (H2.set b ⟨cs.set (o + i * 6 + 5) p', .own⟩) (.slice (some ⟨b, o, none⟩) n 6) kInstr n (((cs.set (o + i * 6 + 5) p').drop o).take (n * 6)) ∧ H0.length ≤ (H2.set b ⟨cs.set (o + i * 6 + 5) p', .own⟩ : AH).length ∧ ∀ g, g < H0.length → c ≠ some g → (H2.set b ⟨cs.set (o + i * 6 + 5) p', .own⟩ : AH)[g]? = H0[g]? := by
  obtain ⟨t, -⟩ := h.ok j _ hj
  have t : OT H (.slice (some ⟨b, o, none⟩) n 6) kInstr n xs := t
  have hbl : b < H.length := (List.getElem?_eq_some_iff.1 hb).1
  have hrow : ∀ (j : Nat) y, xs[j]? = some y → cs[o + j]? = some y := by
    rcases t.row with ⟨e, _⟩ | ⟨b2, o2, cs2, e, h1, h2, h3⟩
    · cases e
    · simp only [Value.slice.injEq, Option.some.injEq, Addr.mk.injEq, true_and] at e
      obtain ⟨⟨rfl, rfl, -⟩, -⟩ := e
      rw [hb] at h1
      cases h1
      exact h3
  have hxl : xs.length = n * 6 := t.len
  have old : ∀ (d c : Nat) y, d < n → c < 6 → cs[o + d * 6 + c]? = some y → xs[d * 6 + c]? = some y := by
    intro d c y hd hc hy
    have hj : d * 6 + c < xs.length := by omega
    have h2 := hrow (d * 6 + c) _ (List.getElem?_eq_getElem hj)
    rw [← Nat.add_assoc, hy] at h2
    simp only [Option.some.injEq] at h2
    rw [h2]; exact List.getElem?_eq_getElem hj
  have hpx : xs[i * 6 + 5]? = some p := old i 5 p hi (by decide) hp
  have hpb : blkOf p ≠ some b := t.out _ p hpx b rfl
  have hp'b : ∀ g, blkOf p' = some g → g ≠ b := fun g hg e => by
    subst e
    rcases ha.new g hg with h1 | h1
    · exact hpb h1
    · omega
  have hb2 : H2[b]? = some ⟨cs, .own⟩ := by rw [ha.keep b hbl hpb]; exact hb
  have hget : ∀ (j : Nat) y, (((cs.set (o + i * 6 + 5) p').drop o).take (n * 6))[j]? = some y → (cs.set (o + i * 6 + 5) p')[o + j]? = some y := by
    intro j y hy
    have hj : j < n * 6 := by
      have := (List.getElem?_eq_some_iff.1 hy).1
      simp at this; omega
    rw [List.getElem?_take_of_lt hj, List.getElem?_drop] at hy
    exact hy
  refine ⟨⟨by show _ = n * 6; simp; omega, .inr ⟨b, o, _, rfl, rd_own (set_at hb2), by show o + n * 6 ≤ _; simp; omega, hget⟩, ?_⟩, ?_, ?_⟩
  · intro d c k y hd hk hy
    have hc6 : c < 6 := by have := (List.getElem?_eq_some_iff.1 hk).1; simpa [kInstr] using this
    have hy2 := hget _ y hy
    rw [show kInstr.length = 6 from rfl, ← Nat.add_assoc] at hy2
    rcases Nat.decEq (o + i * 6 + 5) (o + d * 6 + c) with e | e
    · rw [List.getElem?_set_ne e] at hy2
      have hyx := old d c y hd hc6 hy2
      refine (t.ok d c k y hd hk hyx).same fun g hg => get_rd ?_
      have g1 : g ≠ b := fun e => t.out _ y hyx b rfl (by rw [← e]; exact hg)
      have g2 : blkOf p ≠ some g := fun e2 => t.dif (d * 6 + c) (i * 6 + 5) y p (by omega) hyx hpx g hg e2
      rw [List.getElem?_set_ne (Ne.symm g1)]
      exact ha.keep g (t.lt g (.inr ⟨y, List.mem_of_getElem? hyx, hg⟩)) g2
    · have hd2 : d = i ∧ c = 5 := by omega
      obtain ⟨rfl, rfl⟩ := hd2
      have hlt := (List.getElem?_eq_some_iff.1 hp).1
      rw [List.getElem?_set_self hlt] at hy2
      simp only [Option.some.injEq] at hy2
      subst hy2
      have : k = .r := by simp [kInstr] at hk; exact hk.symm
      subst this
      exact (ho.kok hl).1.same fun g hg => get_rd (List.getElem?_set_ne (Ne.symm (hp'b g hg)))
  · rw [List.length_set]
    exact Nat.le_trans h.len ha.len
  · intro g hg hn
    have g1 : b ≠ g := fun e => by
      have := (h.fr j _ hj b (.inl rfl)).2; omega
    have g2 : blkOf p ≠ some g := fun e => by
      have := (h.fr j _ hj g (.inr ⟨p, List.mem_of_getElem? hpx, e⟩)).2; omega
    rw [List.getElem?_set_ne g1, ha.keep g (Nat.lt_of_lt_of_le hg h.len) g2]
    exact h.keep g hg hn

set_option maxHeartbeats 4000000 in
theorem l11Draw_ok {H0 H : AH} {cb : Nat} (q : LX (some cb) H0 H []) (h0 : H0.length ≤ cb) :
    CallsA Try.prog 65 #[.pointer (some ⟨cb, 0, none⟩)] H fun r H' => ∃ (a : Option Addr) (m c : Nat) (xs : List Value), r = .slice a m c ∧ FRow H' (.slice a m c) kInstr m xs ∧ m ≤ 70 ∧ ∃ K, H' = H0 ++ K := by
  refine w65 ?_
  unfold k65
  simp -implicitDefEqProofs only [kz, kk0, kk1, kk2, kk3, ↓two_true, ↓two_false, mkv, aggAt, Nat.reduceLeDiff, Nat.reduceSub, Nat.reduceMul, implies_true, Nat.reduceEqDiff, reduceIte, Nat.reduceAdd, Nat.reduceBEq, reduceCtorEq, ap29_29, ap64_64, bd63, bd66, bs29_1, bs64_1, fa66_0, fa66_1, fa66_2, fa66_3, ix29, ld64, ld66, ln29, sn29, sl29, st3, st63, st64]
  refine (l11DrawRight_ok q).mono ?_
  rintro _ H2 ⟨na, m, nc, xs, V, rfl, q2, hm0, hm, h300⟩
  have hm0 : 0 < m := hm0
  obtain ⟨b, o, cs, rfl, rfl, hb, hle⟩ := (q2.cmpTab 0 rfl).tabOp6 0 rfl hm0
  clear hb hle cs
  simp -implicitDefEqProofs only [kz, kk0, kk1, kk2, kk3, ↓two_true, ↓two_false, mkv, aggAt, Nat.reduceLeDiff, Nat.reduceSub, Nat.reduceMul, implies_true, Nat.reduceEqDiff, reduceIte, Nat.reduceAdd, Nat.reduceBEq, reduceCtorEq, ap29_29, ap64_64, bd63, bd66, bs29_1, bs64_1, fa66_0, fa66_1, fa66_2, fa66_3, ix29, ld64, ld66, ln29, sn29, sl29, st3, st63, st64]
  refine (l1Below_ok q2.curr).mono ?_
  rintro _ H4 ⟨⟨v, rfl, -, hv⟩, hf⟩
  have hv := hv (by omega)
  obtain ⟨i, rfl⟩ : ∃ i : Nat, v = i := ⟨v.toNat, by omega⟩
  have hi : i < m := by omega
  have q4 := q2.call hf
  simp -implicitDefEqProofs only [kz, kk0, kk1, kk2, kk3, ↓two_true, ↓two_false, mkv, aggAt, Nat.reduceLeDiff, Nat.reduceSub, Nat.reduceMul, implies_true, Nat.reduceEqDiff, reduceIte, Nat.reduceAdd, Nat.reduceBEq, reduceCtorEq, ap29_29, ap64_64, bd63, bd66, bs29_1, bs64_1, fa66_0, fa66_1, fa66_2, fa66_3, ix29, ld64, ld66, ln29, sn29, sl29, st3, st63, st64]
  refine (l1Below_ok q4.curr).mono ?_
  rintro _ H6 ⟨⟨cc, rfl, -, -⟩, hf⟩
  have q5 := q4.call hf
  have q6 := q5.cmpTab 0 rfl
  simp only [List.set_cons_zero, List.set_cons_succ] at q6
  have g1 : (0 : Int) ≤ (i : Int) ∧ (i : Int) < (m : Int) := by omega
  obtain ⟨csx, hbx, hlex⟩ : ∃ cs, H6[b]? = some ⟨cs, .own⟩ ∧ o + m * 6 ≤ cs.length := by
    obtain ⟨b', o', cs, e, -, hb, hle⟩ := q6.tabOp6 0 rfl hm0
    simp only [Option.some.injEq, Addr.mk.injEq] at e
    obtain ⟨rfl, rfl, -⟩ := e
    exact ⟨cs, hb, hle⟩
  simp -implicitDefEqProofs only [kz, kk0, kk1, kk2, kk3, ↓two_true, ↓two_false, mkv, aggAt, Nat.reduceLeDiff, Nat.reduceSub, Nat.reduceMul, implies_true, Nat.reduceEqDiff, reduceIte, Nat.reduceAdd, Nat.reduceBEq, reduceCtorEq, ap29_29, ap64_64, bd63, bd66, bs29_1, bs64_1, fa66_0, fa66_1, fa66_2, fa66_3, ix29, ld64, ld66, ln29, sn29, sl29, st3, st63, st64, if_pos g1, Int.toNat_natCast]
  refine two_intro (fun _ => ?_) (fun _ => two_intro (fun _ => ?_) (fun _ => two_intro (fun _ => ?_) (fun _ => two_intro (fun _ => ?_) (fun _ => two_intro (fun _ => ?_) (fun _ => two_intro (fun _ => ?_) (fun _ => two_intro (fun _ => ?_) (fun _ => ?_)))))))
  · refine (l1Below_ok q6.curr).mono ?_
    rintro _ H7 ⟨⟨x, rfl, -, -⟩, hf⟩
    have q7 := q6.call hf
    obtain ⟨b', o', cs, e, -, hb, hle⟩ := q7.tabOp6 0 rfl hm0
    simp only [Option.some.injEq, Addr.mk.injEq] at e
    obtain ⟨rfl, rfl, -⟩ := e
    simp -implicitDefEqProofs only [kz, kk0, kk1, kk2, kk3, ↓two_true, ↓two_false, mkv, aggAt, Nat.reduceLeDiff, Nat.reduceSub, Nat.reduceMul, implies_true, Nat.reduceEqDiff, reduceIte, Nat.reduceAdd, Nat.reduceBEq, reduceCtorEq, ap29_29, ap64_64, bd63, bd66, bs29_1, bs64_1, fa66_0, fa66_1, fa66_2, fa66_3, ix29, ld64, ld66, ln29, sn29, sl29, st3, st63, st64, if_pos g1, Int.toNat_natCast, wrt_own hb]
    refine ⟨by omega, ?_⟩
    obtain ⟨xs', V', qz⟩ := q7.tabSet6 0 rfl hb hle (cs.set (o + i * 6) (.int .i64 x)) (by simp) (fun d c y _ hc h => set_cell6 (k := 0) (by decide) d c y hc h)
    simp only [List.set_cons_zero, List.set_cons_succ] at qz
    generalize (List.set H7 b _ : AH) = Hz at qz ⊢
    try simp -implicitDefEqProofs only [kz, kk0, kk1, kk2, kk3, ↓two_true, ↓two_false, mkv, aggAt, Nat.reduceLeDiff, Nat.reduceSub, Nat.reduceMul, implies_true, Nat.reduceEqDiff, reduceIte, Nat.reduceAdd, Nat.reduceBEq, reduceCtorEq, ap29_29, ap64_64, bd63, bd66, bs29_1, bs64_1, fa66_0, fa66_1, fa66_2, fa66_3, ix29, ld64, ld66, ln29, sn29, sl29, st3, st63, st64]
    exact ⟨_, _, _, _, rfl, (qz.tb 0 rfl).1, by omega, (qz.out h0).ext⟩
  · refine (l1Below_ok q6.curr).mono ?_
    rintro _ H7 ⟨⟨x, rfl, -, hx⟩, hf⟩
    have q7 := q6.call hf
    obtain ⟨b', o', cs, e, -, hb, hle⟩ := q7.tabOp6 0 rfl hm0
    simp only [Option.some.injEq, Addr.mk.injEq] at e
    obtain ⟨rfl, rfl, -⟩ := e
    have hx := hx (by omega)
    have wx : IntKind.i64.wrap (x - 1) = x - 1 := IntWalk.i64_in _ (by omega)
    simp -implicitDefEqProofs only [kz, kk0, kk1, kk2, kk3, ↓two_true, ↓two_false, mkv, aggAt, Nat.reduceLeDiff, Nat.reduceSub, Nat.reduceMul, implies_true, Nat.reduceEqDiff, reduceIte, Nat.reduceAdd, Nat.reduceBEq, reduceCtorEq, ap29_29, ap64_64, bd63, bd66, bs29_1, bs64_1, fa66_0, fa66_1, fa66_2, fa66_3, ix29, ld64, ld66, ln29, sn29, sl29, st3, st63, st64, if_pos g1, Int.toNat_natCast, wrt_own hb, wx]
    refine ⟨by omega, ?_⟩
    obtain ⟨xs', V', qz⟩ := q7.tabSet6 0 rfl hb hle (cs.set (o + i * 6 + 1) (.int .i64 (x - 1))) (by simp) (fun d c y _ hc h => set_cell6 (k := 1) (by decide) d c y hc h)
    simp only [List.set_cons_zero, List.set_cons_succ] at qz
    generalize (List.set H7 b _ : AH) = Hz at qz ⊢
    try simp -implicitDefEqProofs only [kz, kk0, kk1, kk2, kk3, ↓two_true, ↓two_false, mkv, aggAt, Nat.reduceLeDiff, Nat.reduceSub, Nat.reduceMul, implies_true, Nat.reduceEqDiff, reduceIte, Nat.reduceAdd, Nat.reduceBEq, reduceCtorEq, ap29_29, ap64_64, bd63, bd66, bs29_1, bs64_1, fa66_0, fa66_1, fa66_2, fa66_3, ix29, ld64, ld66, ln29, sn29, sl29, st3, st63, st64]
    exact ⟨_, _, _, _, rfl, (qz.tb 0 rfl).1, by omega, (qz.out h0).ext⟩
  · refine (l9DrawFun_ok q6).mono ?_
    rintro _ H7 ⟨fs, fo, fw, rfl, q7⟩
    obtain ⟨b', o', cs, e, -, hb, hle⟩ := q7.tabOp6 0 rfl hm0
    simp only [Option.some.injEq, Addr.mk.injEq] at e
    obtain ⟨rfl, rfl, -⟩ := e
    simp -implicitDefEqProofs only [kz, kk0, kk1, kk2, kk3, ↓two_true, ↓two_false, mkv, aggAt, Nat.reduceLeDiff, Nat.reduceSub, Nat.reduceMul, implies_true, Nat.reduceEqDiff, reduceIte, Nat.reduceAdd, Nat.reduceBEq, reduceCtorEq, ap29_29, ap64_64, bd63, bd66, bs29_1, bs64_1, fa66_0, fa66_1, fa66_2, fa66_3, ix29, ld64, ld66, ln29, sn29, sl29, st3, st63, st64, if_pos g1, Int.toNat_natCast, wrt_own hb]
    refine ⟨by omega, ?_⟩
    obtain ⟨xs', V', qz⟩ := q7.tabSet6 0 rfl hb hle (((cs.set (o + i * 6 + 2) (.int .i64 fs)).set (o + i * 6 + 3) (.int .i64 fo)).set (o + i * 6 + 4) (.int .i64 fw)) (by simp) (fun d c y _ hc h => by
      rcases set_cell6 (k := 4) (by decide) d c y hc h with h | h
      · rcases set_cell6 (k := 3) (by decide) d c y hc h with h | h
        · exact set_cell6 (k := 2) (by decide) d c y hc h
        · exact .inr h
      · exact .inr h)
    simp only [List.set_cons_zero, List.set_cons_succ] at qz
    generalize (List.set H7 b _ : AH) = Hz at qz ⊢
    try simp -implicitDefEqProofs only [kz, kk0, kk1, kk2, kk3, ↓two_true, ↓two_false, mkv, aggAt, Nat.reduceLeDiff, Nat.reduceSub, Nat.reduceMul, implies_true, Nat.reduceEqDiff, reduceIte, Nat.reduceAdd, Nat.reduceBEq, reduceCtorEq, ap29_29, ap64_64, bd63, bd66, bs29_1, bs64_1, fa66_0, fa66_1, fa66_2, fa66_3, ix29, ld64, ld66, ln29, sn29, sl29, st3, st63, st64]
    exact ⟨_, _, _, _, rfl, (qz.tb 0 rfl).1, by omega, (qz.out h0).ext⟩
  · have z0 : Int.toNat 0 = 0 := rfl
    have g2 : (0 : Int) ≤ 0 ∧ (0 : Int) ≤ (i : Int) ∧ (i : Int) ≤ (m : Int) := by omega
    try simp -implicitDefEqProofs only [kz, kk0, kk1, kk2, kk3, ↓two_true, ↓two_false, mkv, aggAt, Nat.reduceLeDiff, Nat.reduceSub, Nat.reduceMul, implies_true, Nat.reduceEqDiff, reduceIte, Nat.reduceAdd, Nat.reduceBEq, reduceCtorEq, ap29_29, ap64_64, bd63, bd66, bs29_1, bs64_1, fa66_0, fa66_1, fa66_2, fa66_3, ix29, ld64, ld66, ln29, sn29, sl29, st3, st63, st64, z0, Int.toNat_natCast, Nat.zero_mul, Nat.sub_zero]
    refine ⟨g2, ?_⟩
    obtain ⟨V', qz⟩ := q6.tabTk6 0 rfl i (by omega)
    simp only [List.set_cons_zero, List.set_cons_succ] at qz
    try simp -implicitDefEqProofs only [kz, kk0, kk1, kk2, kk3, ↓two_true, ↓two_false, mkv, aggAt, Nat.reduceLeDiff, Nat.reduceSub, Nat.reduceMul, implies_true, Nat.reduceEqDiff, reduceIte, Nat.reduceAdd, Nat.reduceBEq, reduceCtorEq, ap29_29, ap64_64, bd63, bd66, bs29_1, bs64_1, fa66_0, fa66_1, fa66_2, fa66_3, ix29, ld64, ld66, ln29, sn29, sl29, st3, st63, st64, z0, Int.toNat_natCast, Nat.zero_mul, Nat.sub_zero]
    exact ⟨_, _, _, _, rfl, (qz.tb 0 rfl).1, by omega, (qz.out h0).ext⟩
  · obtain ⟨f1, f2⟩ := q6.tb 0 rfl
    obtain ⟨na', nc', e, gv⟩ := f1.opn 6 rfl
    simp only [Value.slice.injEq, true_and] at e
    obtain ⟨rfl, rfl⟩ := e
    obtain ⟨b', o', cs, e, -, hrd, hle, hcell⟩ := gv hm0
    simp only [Option.some.injEq, Addr.mk.injEq] at e
    obtain ⟨rfl, rfl, -⟩ := e
    have x1 := f1.elemn 6 rfl hi
    have l1 : ld Try.prog 66 (o + i * 6) cs = some (.agg (elm 6 xs i).toArray) := by rw [ld66]; exact (hcell i hi).1
    obtain ⟨ex, hex⟩ : ∃ ex, ex = elm 6 xs i := ⟨_, rfl⟩
    rw [← hex] at x1 l1
    obtain ⟨op, ia, is, io, iw, p, rfl, ky, -⟩ := all2_instr x1
    obtain ⟨pa, pc, ep⟩ := ky.1.slice
    generalize hpl : (rowI H6 p).length = pl at ep
    subst ep
    clear x1 ky hpl
    try simp -implicitDefEqProofs only [kz, kk0, kk1, kk2, kk3, ↓two_true, ↓two_false, mkv, aggAt, Nat.reduceLeDiff, Nat.reduceSub, Nat.reduceMul, implies_true, Nat.reduceEqDiff, reduceIte, Nat.reduceAdd, Nat.reduceBEq, reduceCtorEq, ap29_29, ap64_64, bd63, bd66, bs29_1, bs64_1, fa66_0, fa66_1, fa66_2, fa66_3, ix29, ld64, ld66, ln29, sn29, sl29, st3, st63, st64, if_pos g1, Int.toNat_natCast, hrd, l1]
    refine st_cells q6 fun H9 q9 => ?_
    simp -implicitDefEqProofs only [kz, kk0, kk1, kk2, kk3, ↓two_true, ↓two_false, mkv, aggAt, Nat.reduceLeDiff, Nat.reduceSub, Nat.reduceMul, implies_true, Nat.reduceEqDiff, reduceIte, Nat.reduceAdd, Nat.reduceBEq, reduceCtorEq, ap29_29, ap64_64, bd63, bd66, bs29_1, bs64_1, fa66_0, fa66_1, fa66_2, fa66_3, ix29, ld64, ld66, ln29, sn29, sl29, st3, st63, st64]
    refine st_app6 (l := rowI H9 (.slice pa pl pc)) q9 1 0 rfl rfl (fun B h => ⟨(TabOk.row6 (h.ok 1 _ rfl).1 hi hex.symm).1, rfl, (TabOk.row6 (h.ok 1 _ rfl).1 hi hex.symm).2⟩) (by omega) fun a2 c2 H10 zs2 q10 => ?_
    simp only [List.set_cons_zero, List.set_cons_succ] at q10
    have qz := q10.tail
    try simp -implicitDefEqProofs only [kz, kk0, kk1, kk2, kk3, ↓two_true, ↓two_false, mkv, aggAt, Nat.reduceLeDiff, Nat.reduceSub, Nat.reduceMul, implies_true, Nat.reduceEqDiff, reduceIte, Nat.reduceAdd, Nat.reduceBEq, reduceCtorEq, ap29_29, ap64_64, bd63, bd66, bs29_1, bs64_1, fa66_0, fa66_1, fa66_2, fa66_3, ix29, ld64, ld66, ln29, sn29, sl29, st3, st63, st64]
    exact ⟨_, _, _, _, rfl, (qz.tb 0 rfl).1, by omega, (qz.out h0).ext⟩
  · have cell : ∀ {H9 : AH} {L9 : List Ix} (q9 : LX (some cb) H0 H9 L9) (j : Nat), L9[j]? = some (.own (.cmp (.row (.slice (some ⟨b, o, none⟩) m 6) kInstr m xs) V)) → ∃ cs p, xs[i * 6 + 5]? = some p ∧ H9[b]? = some ⟨cs, .own⟩ ∧ o + m * 6 ≤ cs.length ∧ cs[o + i * 6 + 5]? = some p ∧ OwnRow H9 p (rowI H9 p) ∧ (rowI H9 p).length ≤ 300 ∧ blkOf p ≠ some b ∧ b < H9.length := by
      intro H9 L9 q9 j hj
      obtain ⟨B, h⟩ := q9
      obtain ⟨t, e2⟩ := h.ok j _ hj
      have t : OT H9 (.slice (some ⟨b, o, none⟩) m 6) kInstr m xs := t
      have hxl : xs.length = m * 6 := t.len
      rcases t.row with ⟨e, _⟩ | ⟨b2, o2, cs2, e, h1, h2, h3⟩
      · cases e
      · simp only [Value.slice.injEq, Option.some.injEq, Addr.mk.injEq, true_and] at e
        obtain ⟨⟨rfl, rfl, -⟩, -⟩ := e
        have hj5 : i * 6 + 5 < xs.length := by omega
        have hx := List.getElem?_eq_getElem hj5
        have hk := t.ok i 5 .r _ hi rfl hx
        refine ⟨cs2, xs[i * 6 + 5], hx, h1, h2, ?_, (t.own _ _ hx).row hk.1, ?_, t.out _ _ hx b rfl, (List.getElem?_eq_some_iff.1 h1).1⟩
        · have := h3 (i * 6 + 5) _ hx
          rw [← Nat.add_assoc] at this
          exact this
        · refine h300 _ ?_
          have e2 : cvs H9 xs = V := e2
          rw [← e2, ← cv_row hk.1]
          exact List.mem_map.2 ⟨_, List.getElem_mem hj5, rfl⟩
    obtain ⟨cs6, p, hx6, hb6, hle6, hc6, ho6, hl6, hn6, hlt6⟩ := cell q5 0 rfl
    obtain ⟨pa, pc, ep⟩ := ho6.isSlice
    generalize hpl : (rowI H6 p).length = pl at ep
    subst ep
    clear hpl ho6 hl6
    simp -implicitDefEqProofs only [kz, kk0, kk1, kk2, kk3, ↓two_true, ↓two_false, mkv, aggAt, Nat.reduceLeDiff, Nat.reduceSub, Nat.reduceMul, implies_true, Nat.reduceEqDiff, reduceIte, Nat.reduceAdd, Nat.reduceBEq, reduceCtorEq, ap29_29, ap64_64, bd63, bd66, bs29_1, bs64_1, fa66_0, fa66_1, fa66_2, fa66_3, ix29, ld64, ld66, ln29, sn29, sl29, st3, st63, st64, if_pos g1, Int.toNat_natCast, rd_own hb6, hc6]
    refine (l1DrawRaw_ok q5.curr).mono ?_
    rintro _ H7 ⟨⟨x, rfl, -⟩, hf⟩
    have q7 := q5.call hf
    obtain ⟨cs7, p7, hx7, hb7, hle7, hc7, -, -, -, -⟩ := cell q7 0 rfl
    rw [hx6] at hx7
    cases hx7
    simp -implicitDefEqProofs only [kz, kk0, kk1, kk2, kk3, ↓two_true, ↓two_false, mkv, aggAt, Nat.reduceLeDiff, Nat.reduceSub, Nat.reduceMul, implies_true, Nat.reduceEqDiff, reduceIte, Nat.reduceAdd, Nat.reduceBEq, reduceCtorEq, ap29_29, ap64_64, bd63, bd66, bs29_1, bs64_1, fa66_0, fa66_1, fa66_2, fa66_3, ix29, ld64, ld66, ln29, sn29, sl29, st3, st63, st64, if_pos g1, Int.toNat_natCast, rd_own hb7, hc7]
    refine st_lit [x] rfl rfl q7 fun H8 q8 => ?_
    obtain ⟨cs8, p8, hx8, hb8, hle8, hc8, ho8, hl8, hn8, hlt8⟩ := cell q8 1 rfl
    rw [hx6] at hx8
    cases hx8
    simp -implicitDefEqProofs only [kz, kk0, kk1, kk2, kk3, ↓two_true, ↓two_false, mkv, aggAt, Nat.reduceLeDiff, Nat.reduceSub, Nat.reduceMul, implies_true, Nat.reduceEqDiff, reduceIte, Nat.reduceAdd, Nat.reduceBEq, reduceCtorEq, ap29_29, ap64_64, bd63, bd66, bs29_1, bs64_1, fa66_0, fa66_1, fa66_2, fa66_3, ix29, ld64, ld66, ln29, sn29, sl29, st3, st63, st64, if_pos g1, Int.toNat_natCast, rd_own hb8, hc8]
    refine oA_own ho8 (q8.int 0 rfl) (by simp; omega) fun a9 c9 H9 o9 ap => ?_
    have hb9 : H9[b]? = some ⟨cs8, .own⟩ := by rw [ap.keep b hlt8 hn8]; exact hb8
    simp -implicitDefEqProofs only [kz, kk0, kk1, kk2, kk3, ↓two_true, ↓two_false, mkv, aggAt, Nat.reduceLeDiff, Nat.reduceSub, Nat.reduceMul, implies_true, Nat.reduceEqDiff, reduceIte, Nat.reduceAdd, Nat.reduceBEq, reduceCtorEq, ap29_29, ap64_64, bd63, bd66, bs29_1, bs64_1, fa66_0, fa66_1, fa66_2, fa66_3, ix29, ld64, ld66, ln29, sn29, sl29, st3, st63, st64, if_pos g1, Int.toNat_natCast, rd_own hb9, wrt_own hb9, hc8]
    obtain ⟨B, h8⟩ := q8
    obtain ⟨R1, R2, R3⟩ := rowApp h8 1 rfl hb8 hle8 hi hc8 o9 (by simp; omega) ap
    exact ⟨by omega, _, _, _, _, rfl, R1, by omega, ext_of R2 fun g hg => R3 g hg (by simp; omega)⟩
  · try simp -implicitDefEqProofs only [kz, kk0, kk1, kk2, kk3, ↓two_true, ↓two_false, mkv, aggAt, Nat.reduceLeDiff, Nat.reduceSub, Nat.reduceMul, implies_true, Nat.reduceEqDiff, reduceIte, Nat.reduceAdd, Nat.reduceBEq, reduceCtorEq, ap29_29, ap64_64, bd63, bd66, bs29_1, bs64_1, fa66_0, fa66_1, fa66_2, fa66_3, ix29, ld64, ld66, ln29, sn29, sl29, st3, st63, st64]
    refine rW_loop (σ := Nat) (fun n tm H' => tm 0 = .pointer (some ⟨cb, 0, none⟩) ∧ n ≤ 61 ∧ ∃ (a2 : Option Addr) (nc2 : Nat) (ys : List Value) (W : List CV), tm 3 = .slice a2 n nc2 ∧ LX (some cb) H0 H' [.tab (.slice a2 n nc2) kInstr n ys W]) (fun n => 61 - n) m ?_ ?_
    · exact ⟨rfl, by omega, _, _, _, _, rfl, q6⟩
    · rintro n tm H7 ⟨t0, hn, a2, nc2, ys, W, t3, q7⟩
      simp -implicitDefEqProofs only [kz, kk0, kk1, kk2, kk3, ↓two_true, ↓two_false, mkv, aggAt, Nat.reduceLeDiff, Nat.reduceSub, Nat.reduceMul, implies_true, Nat.reduceEqDiff, reduceIte, Nat.reduceAdd, Nat.reduceBEq, reduceCtorEq, ap29_29, ap64_64, bd63, bd66, bs29_1, bs64_1, fa66_0, fa66_1, fa66_2, fa66_3, ix29, ld64, ld66, ln29, sn29, sl29, st3, st63, st64, t0, t3]
      refine (l1Below_ok q7.curr).mono ?_
      rintro _ H8 ⟨⟨x, rfl, -, hx⟩, hf⟩
      have hx := hx (by decide)
      have q8 := q7.call hf
      have wx : IntKind.i64.wrap (60 + x) = 60 + x := IntWalk.i64_in _ (by omega)
      simp -implicitDefEqProofs only [kz, kk0, kk1, kk2, kk3, ↓two_true, ↓two_false, mkv, aggAt, Nat.reduceLeDiff, Nat.reduceSub, Nat.reduceMul, implies_true, Nat.reduceEqDiff, reduceIte, Nat.reduceAdd, Nat.reduceBEq, reduceCtorEq, ap29_29, ap64_64, bd63, bd66, bs29_1, bs64_1, fa66_0, fa66_1, fa66_2, fa66_3, ix29, ld64, ld66, ln29, sn29, sl29, st3, st63, st64, t0, t3, wx]
      refine two_intro (fun u => ?_) (fun u => ?_)
      · have hlt : n < 61 := by have := of_decide_eq_true u; omega
        refine st_cells q8 fun H9 q9 => ?_
        simp -implicitDefEqProofs only [kz, kk0, kk1, kk2, kk3, ↓two_true, ↓two_false, mkv, aggAt, Nat.reduceLeDiff, Nat.reduceSub, Nat.reduceMul, implies_true, Nat.reduceEqDiff, reduceIte, Nat.reduceAdd, Nat.reduceBEq, reduceCtorEq, ap29_29, ap64_64, bd63, bd66, bs29_1, bs64_1, fa66_0, fa66_1, fa66_2, fa66_3, ix29, ld64, ld66, ln29, sn29, sl29, st3, st63, st64, t0, t3]
        refine st_app6 q9 1 0 rfl rfl (fun B h => nilRow) (by omega) fun a8 c8 Ha zs qa => ?_
        simp only [List.set_cons_zero, List.set_cons_succ] at qa
        simp -implicitDefEqProofs only [kz, kk0, kk1, kk2, kk3, ↓two_true, ↓two_false, mkv, aggAt, Nat.reduceLeDiff, Nat.reduceSub, Nat.reduceMul, implies_true, Nat.reduceEqDiff, reduceIte, Nat.reduceAdd, Nat.reduceBEq, reduceCtorEq, ap29_29, ap64_64, bd63, bd66, bs29_1, bs64_1, fa66_0, fa66_1, fa66_2, fa66_3, ix29, ld64, ld66, ln29, sn29, sl29, st3, st63, st64, t0, t3]
        refine ⟨n + 1, by omega, ?_⟩
        first | exact ⟨rfl, hlt, _, _, _, _, rfl, qa.tail⟩ | exact ⟨hlt, _, _, _, _, rfl, qa.tail⟩
      · have qz := q8
        try simp -implicitDefEqProofs only [kz, kk0, kk1, kk2, kk3, ↓two_true, ↓two_false, mkv, aggAt, Nat.reduceLeDiff, Nat.reduceSub, Nat.reduceMul, implies_true, Nat.reduceEqDiff, reduceIte, Nat.reduceAdd, Nat.reduceBEq, reduceCtorEq, ap29_29, ap64_64, bd63, bd66, bs29_1, bs64_1, fa66_0, fa66_1, fa66_2, fa66_3, ix29, ld64, ld66, ln29, sn29, sl29, st3, st63, st64, t0, t3]
        exact ⟨_, _, _, _, rfl, (qz.tb 0 rfl).1, by omega, (qz.out h0).ext⟩
  · have qz := q6
    try simp -implicitDefEqProofs only [kz, kk0, kk1, kk2, kk3, ↓two_true, ↓two_false, mkv, aggAt, Nat.reduceLeDiff, Nat.reduceSub, Nat.reduceMul, implies_true, Nat.reduceEqDiff, reduceIte, Nat.reduceAdd, Nat.reduceBEq, reduceCtorEq, ap29_29, ap64_64, bd63, bd66, bs29_1, bs64_1, fa66_0, fa66_1, fa66_2, fa66_3, ix29, ld64, ld66, ln29, sn29, sl29, st3, st63, st64]
    exact ⟨_, _, _, _, rfl, (qz.tb 0 rfl).1, by omega, (qz.out h0).ext⟩

set_option maxHeartbeats 4000000 in
theorem drawCodePack_ok {H : AH} {v : Value} (hv : BRv H v) : CallsA Try.prog 29 #[v] H fun r H' => ∃ (a : Option Addr) (m c : Nat) (xs : List Value), r = .slice a m c ∧ FRow H' (.slice a m c) kInstr m xs ∧ m ≤ 70 ∧ ∃ K, H' = H ++ K := by
  refine w29 ?_
  unfold k29
  simp -implicitDefEqProofs only [kz, kk0, kk1, kk2, kk3, ↓two_true, ↓two_false, mkv, aggAt, Nat.reduceLeDiff, Nat.reduceSub, Nat.reduceMul, implies_true, Nat.reduceEqDiff, reduceIte, Nat.reduceAdd, Nat.reduceBEq, reduceCtorEq]
  refine (l1New_ok hv).mono ?_
  rintro _ H2 ⟨cb, rfl, hc, hle, hK⟩
  have q2 := (LX.nil (H := H)).cursor hK hc hle
  simp -implicitDefEqProofs only [kz, kk0, kk1, kk2, kk3, ↓two_true, ↓two_false, mkv, aggAt, Nat.reduceLeDiff, Nat.reduceSub, Nat.reduceMul, implies_true, Nat.reduceEqDiff, reduceIte, Nat.reduceAdd, Nat.reduceBEq, reduceCtorEq]
  refine (l11Draw_ok q2 hle).mono ?_
  rintro _ H3 ⟨a, m, c, xs, rfl, f, hm, hK3⟩
  simp -implicitDefEqProofs only [kz, kk0, kk1, kk2, kk3, ↓two_true, ↓two_false, mkv, aggAt, Nat.reduceLeDiff, Nat.reduceSub, Nat.reduceMul, implies_true, Nat.reduceEqDiff, reduceIte, Nat.reduceAdd, Nat.reduceBEq, reduceCtorEq]
  exact ⟨a, m, c, xs, rfl, f, hm, hK3⟩

theorem LX.newB {c0 : Option Nat} {H0 H H' : AH} {L : List Ix} {v : Value} {l : List Int} (h : LX c0 H0 H L) (hv : ByNew H H' v l) (hl : l ≠ []) (hf : ∃ K, H' = H ++ K) : ∃ b, v = .slice (some ⟨b, 0, none⟩) l.length 1 ∧ LX c0 H0 H' (.own (.box b (bts l)) :: L) := by
  obtain ⟨B, h⟩ := h
  obtain ⟨K, rfl⟩ := hf
  rcases hv with ⟨_, e⟩ | ⟨b, e, h1, h2⟩
  · exact absurd e hl
  · exact ⟨b, e, B, h.add (by simp) (fun b hb _ => List.getElem?_append_left hb) (fun g e => (h.cur g e).mono) h2 fun g hg => by cases hg; exact h1⟩
theorem LX.byRow {c0 : Option Nat} {H0 H : AH} {L : List Ix} {b : Nat} {l : List Int} (q : LX c0 H0 H L) (i : Nat) (hi : L[i]? = some (.own (.box b (bts l)))) (k : Nat) (hk : k ≤ l.length) : ByRow H (.slice (some ⟨b, 0, none⟩) k 1) (l.take k) := by
  have hl : (l.take k).length = k := by simp; omega
  refine .inr ⟨b, 0, bts l, by rw [hl], (q.rd i hi).1, by rw [hl, bts_len]; omega, ?_⟩
  rw [List.drop_zero, hl]
  unfold bts
  rw [List.map_take]
theorem bts_set {l : List Int} {i : Nat} {x : Int} : (bts l).set i (.int .u8 x) = bts (l.set i x) := by
  unfold bts
  rw [List.map_set]
theorem byOk_set {l : List Int} {i : Nat} {x : Int} (h : byOk l) (hx : 0 ≤ x ∧ x ≤ 255) : byOk (l.set i x) := fun y hy => by
  rcases List.mem_or_eq_of_mem_set hy with h1 | h1
  · exact h y h1
  · subst h1; exact hx

end Go.Proofs.Ytdagncfnkenbfaa.AM
