/- What the functions answer, part 5. -/
import Derived.Test.YtdagncfnkenbfaaP4
set_option linter.unusedVariables false
set_option linter.unusedSimpArgs false
set_option linter.defProp false
set_option maxRecDepth 100000
/- What the functions answer, part 5. -/
namespace Go.Proofs.Ytdagncfnkenbfaa.AM
open Go Go.Proofs.Ytdagncfnkenbfaa Go.Proofs
set_option maxHeartbeats 4000000 in
theorem l9DrawFun_ok {H0 H : AH} {L : List Ix} {cb : Nat} (q : LX (some cb) H0 H L) :
    CallsA Try.prog 80 #[.pointer (some ⟨cb, 0, none⟩)] H fun r H' => ∃ s o w : Int, r = .agg #[.int .i64 s, .int .i64 o, .int .i64 w] ∧ LX (some cb) H0 H' L := by
  refine w80 ?_
  unfold k80
  simp -implicitDefEqProofs only [kz, kk0, kk1, kk2, kk3, ↓two_true, ↓two_false, mkv, aggAt, Nat.reduceLeDiff, Nat.reduceSub, Nat.reduceMul, implies_true, Nat.reduceEqDiff, reduceIte, Nat.reduceAdd, Nat.reduceBEq, reduceCtorEq, al63, bd63, bs64_4, bs64_5, bs64_22, fa63_1, fa63_2, ld3, ld63, st3, st63]
  refine st_box q fun H1 q1 => ?_
  simp -implicitDefEqProofs only [kz, kk0, kk1, kk2, kk3, ↓two_true, ↓two_false, mkv, aggAt, Nat.reduceLeDiff, Nat.reduceSub, Nat.reduceMul, implies_true, Nat.reduceEqDiff, reduceIte, Nat.reduceAdd, Nat.reduceBEq, reduceCtorEq, al63, bd63, bs64_4, bs64_5, bs64_22, fa63_1, fa63_2, ld3, ld63, st3, st63]
  refine st_lit [43, 45, 42, 37, 124, 38, 126, 105, 35, 44, 116, 100, 114, 122, 64, 63, 103, 36, 101, 111, 47, 0] rfl rfl q1 fun H2 q2 => ?_
  simp -implicitDefEqProofs only [kz, kk0, kk1, kk2, kk3, ↓two_true, ↓two_false, mkv, aggAt, Nat.reduceLeDiff, Nat.reduceSub, Nat.reduceMul, implies_true, Nat.reduceEqDiff, reduceIte, Nat.reduceAdd, Nat.reduceBEq, reduceCtorEq, al63, bd63, bs64_4, bs64_5, bs64_22, fa63_1, fa63_2, ld3, ld63, st3, st63]
  refine (l1PickInt_ok q2.curr (q2.own 0 rfl) (q2.ncr 0 rfl) (by decide)).mono ?_
  rintro _ H3 ⟨⟨s, rfl, -⟩, hf⟩
  have q3 := (q2.call hf).tail
  simp -implicitDefEqProofs only [kz, kk0, kk1, kk2, kk3, ↓two_true, ↓two_false, mkv, aggAt, Nat.reduceLeDiff, Nat.reduceSub, Nat.reduceMul, implies_true, Nat.reduceEqDiff, reduceIte, Nat.reduceAdd, Nat.reduceBEq, reduceCtorEq, al63, bd63, bs64_4, bs64_5, bs64_22, fa63_1, fa63_2, ld3, ld63, st3, st63]
  refine st_box q3 fun H4 q4 => ?_
  simp -implicitDefEqProofs only [kz, kk0, kk1, kk2, kk3, ↓two_true, ↓two_false, mkv, aggAt, Nat.reduceLeDiff, Nat.reduceSub, Nat.reduceMul, implies_true, Nat.reduceEqDiff, reduceIte, Nat.reduceAdd, Nat.reduceBEq, reduceCtorEq, al63, bd63, bs64_4, bs64_5, bs64_22, fa63_1, fa63_2, ld3, ld63, st3, st63, q4.rd 0 rfl, q4.rd 1 rfl]
  refine st_set q4 0 rfl fun H5 q5 => ?_
  simp only [List.set_cons_zero, List.set_cons_succ] at q5
  simp -implicitDefEqProofs only [kz, kk0, kk1, kk2, kk3, ↓two_true, ↓two_false, mkv, aggAt, Nat.reduceLeDiff, Nat.reduceSub, Nat.reduceMul, implies_true, Nat.reduceEqDiff, reduceIte, Nat.reduceAdd, Nat.reduceBEq, reduceCtorEq, al63, bd63, bs64_4, bs64_5, bs64_22, fa63_1, fa63_2, ld3, ld63, st3, st63, q5.rd 0 rfl, q5.rd 1 rfl]
  refine (l1Once_ok q5.curr).mono ?_
  rintro _ H6 ⟨⟨b, rfl⟩, hf⟩
  have q6 := q5.call hf
  simp -implicitDefEqProofs only [kz, kk0, kk1, kk2, kk3, ↓two_true, ↓two_false, mkv, aggAt, Nat.reduceLeDiff, Nat.reduceSub, Nat.reduceMul, implies_true, Nat.reduceEqDiff, reduceIte, Nat.reduceAdd, Nat.reduceBEq, reduceCtorEq, al63, bd63, bs64_4, bs64_5, bs64_22, fa63_1, fa63_2, ld3, ld63, st3, st63, q6.rd 0 rfl, q6.rd 1 rfl]
  refine two_intro (fun _ => ?_) (fun _ => ?_)
  · refine st_lit [47, 92, 111, 46, 120] rfl rfl q6 fun H7 q7 => ?_
    simp -implicitDefEqProofs only [kz, kk0, kk1, kk2, kk3, ↓two_true, ↓two_false, mkv, aggAt, Nat.reduceLeDiff, Nat.reduceSub, Nat.reduceMul, implies_true, Nat.reduceEqDiff, reduceIte, Nat.reduceAdd, Nat.reduceBEq, reduceCtorEq, al63, bd63, bs64_4, bs64_5, bs64_22, fa63_1, fa63_2, ld3, ld63, st3, st63]
    refine (l1PickInt_ok q7.curr (q7.own 0 rfl) (q7.ncr 0 rfl) (by decide)).mono ?_
    rintro _ H8 ⟨⟨o, rfl, -⟩, hf⟩
    have q8 := (q7.call hf).tail
    simp -implicitDefEqProofs only [kz, kk0, kk1, kk2, kk3, ↓two_true, ↓two_false, mkv, aggAt, Nat.reduceLeDiff, Nat.reduceSub, Nat.reduceMul, implies_true, Nat.reduceEqDiff, reduceIte, Nat.reduceAdd, Nat.reduceBEq, reduceCtorEq, al63, bd63, bs64_4, bs64_5, bs64_22, fa63_1, fa63_2, ld3, ld63, st3, st63, q8.rd 0 rfl, q8.rd 1 rfl]
    refine st_set q8 0 rfl fun H9 q9 => ?_
    simp only [List.set_cons_zero, List.set_cons_succ] at q9
    simp -implicitDefEqProofs only [kz, kk0, kk1, kk2, kk3, ↓two_true, ↓two_false, mkv, aggAt, Nat.reduceLeDiff, Nat.reduceSub, Nat.reduceMul, implies_true, Nat.reduceEqDiff, reduceIte, Nat.reduceAdd, Nat.reduceBEq, reduceCtorEq, al63, bd63, bs64_4, bs64_5, bs64_22, fa63_1, fa63_2, ld3, ld63, st3, st63, q9.rd 0 rfl, q9.rd 1 rfl]
    by_cases ho : o = 46
    · have bo : (o == 46) = true := by simpa using ho
      have qz := q9
      simp -implicitDefEqProofs only [kz, kk0, kk1, kk2, kk3, ↓two_true, ↓two_false, mkv, aggAt, Nat.reduceLeDiff, Nat.reduceSub, Nat.reduceMul, implies_true, Nat.reduceEqDiff, reduceIte, Nat.reduceAdd, Nat.reduceBEq, reduceCtorEq, al63, bd63, bs64_4, bs64_5, bs64_22, fa63_1, fa63_2, ld3, ld63, st3, st63, qz.rd 0 rfl, qz.rd 1 rfl, bo]
      refine st_lit [43, 42, 105, 0] rfl rfl qz fun Ha qa => ?_
      simp -implicitDefEqProofs only [kz, kk0, kk1, kk2, kk3, ↓two_true, ↓two_false, mkv, aggAt, Nat.reduceLeDiff, Nat.reduceSub, Nat.reduceMul, implies_true, Nat.reduceEqDiff, reduceIte, Nat.reduceAdd, Nat.reduceBEq, reduceCtorEq, al63, bd63, bs64_4, bs64_5, bs64_22, fa63_1, fa63_2, ld3, ld63, st3, st63]
      refine (l1PickInt_ok qa.curr (qa.own 0 rfl) (qa.ncr 0 rfl) (by decide)).mono ?_
      rintro _ Hb ⟨⟨w, rfl, -⟩, hf⟩
      have qb := qa.call hf
      simp -implicitDefEqProofs only [kz, kk0, kk1, kk2, kk3, ↓two_true, ↓two_false, mkv, aggAt, Nat.reduceLeDiff, Nat.reduceSub, Nat.reduceMul, implies_true, Nat.reduceEqDiff, reduceIte, Nat.reduceAdd, Nat.reduceBEq, reduceCtorEq, al63, bd63, bs64_4, bs64_5, bs64_22, fa63_1, fa63_2, ld3, ld63, st3, st63, qb.rd 1 rfl, qb.rd 2 rfl]
      refine st_set qb 1 rfl fun Hc qc => ?_
      simp only [List.set_cons_zero, List.set_cons_succ] at qc
      simp -implicitDefEqProofs only [kz, kk0, kk1, kk2, kk3, ↓two_true, ↓two_false, mkv, aggAt, Nat.reduceLeDiff, Nat.reduceSub, Nat.reduceMul, implies_true, Nat.reduceEqDiff, reduceIte, Nat.reduceAdd, Nat.reduceBEq, reduceCtorEq, al63, bd63, bs64_4, bs64_5, bs64_22, fa63_1, fa63_2, ld3, ld63, st3, st63, qc.rd 1 rfl, qc.rd 2 rfl]
      refine st_set qc 2 rfl fun Hd qd => ?_
      simp only [List.set_cons_zero, List.set_cons_succ] at qd
      simp -implicitDefEqProofs only [kz, kk0, kk1, kk2, kk3, ↓two_true, ↓two_false, mkv, aggAt, Nat.reduceLeDiff, Nat.reduceSub, Nat.reduceMul, implies_true, Nat.reduceEqDiff, reduceIte, Nat.reduceAdd, Nat.reduceBEq, reduceCtorEq, al63, bd63, bs64_4, bs64_5, bs64_22, fa63_1, fa63_2, ld3, ld63, st3, st63, qd.rd 1 rfl, qd.rd 2 rfl]
      exact ⟨_, _, _, rfl, qd.tail.tail.tail⟩
    · have bo : (o == 46) = false := by simpa using ho
      simp -implicitDefEqProofs only [kz, kk0, kk1, kk2, kk3, ↓two_true, ↓two_false, mkv, aggAt, Nat.reduceLeDiff, Nat.reduceSub, Nat.reduceMul, implies_true, Nat.reduceEqDiff, reduceIte, Nat.reduceAdd, Nat.reduceBEq, reduceCtorEq, al63, bd63, bs64_4, bs64_5, bs64_22, fa63_1, fa63_2, ld3, ld63, st3, st63, q9.rd 0 rfl, q9.rd 1 rfl, bo]
      refine (l1Once_ok q9.curr).mono ?_
      rintro _ Hx ⟨⟨b2, rfl⟩, hf⟩
      have qz := q9.call hf
      simp -implicitDefEqProofs only [kz, kk0, kk1, kk2, kk3, ↓two_true, ↓two_false, mkv, aggAt, Nat.reduceLeDiff, Nat.reduceSub, Nat.reduceMul, implies_true, Nat.reduceEqDiff, reduceIte, Nat.reduceAdd, Nat.reduceBEq, reduceCtorEq, al63, bd63, bs64_4, bs64_5, bs64_22, fa63_1, fa63_2, ld3, ld63, st3, st63, qz.rd 0 rfl, qz.rd 1 rfl]
      refine two_intro (fun _ => ?_) (fun _ => ?_)
      · refine st_lit [43, 42, 105, 0] rfl rfl qz fun Ha qa => ?_
        simp -implicitDefEqProofs only [kz, kk0, kk1, kk2, kk3, ↓two_true, ↓two_false, mkv, aggAt, Nat.reduceLeDiff, Nat.reduceSub, Nat.reduceMul, implies_true, Nat.reduceEqDiff, reduceIte, Nat.reduceAdd, Nat.reduceBEq, reduceCtorEq, al63, bd63, bs64_4, bs64_5, bs64_22, fa63_1, fa63_2, ld3, ld63, st3, st63]
        refine (l1PickInt_ok qa.curr (qa.own 0 rfl) (qa.ncr 0 rfl) (by decide)).mono ?_
        rintro _ Hb ⟨⟨w, rfl, -⟩, hf⟩
        have qb := qa.call hf
        simp -implicitDefEqProofs only [kz, kk0, kk1, kk2, kk3, ↓two_true, ↓two_false, mkv, aggAt, Nat.reduceLeDiff, Nat.reduceSub, Nat.reduceMul, implies_true, Nat.reduceEqDiff, reduceIte, Nat.reduceAdd, Nat.reduceBEq, reduceCtorEq, al63, bd63, bs64_4, bs64_5, bs64_22, fa63_1, fa63_2, ld3, ld63, st3, st63, qb.rd 1 rfl, qb.rd 2 rfl]
        refine st_set qb 1 rfl fun Hc qc => ?_
        simp only [List.set_cons_zero, List.set_cons_succ] at qc
        simp -implicitDefEqProofs only [kz, kk0, kk1, kk2, kk3, ↓two_true, ↓two_false, mkv, aggAt, Nat.reduceLeDiff, Nat.reduceSub, Nat.reduceMul, implies_true, Nat.reduceEqDiff, reduceIte, Nat.reduceAdd, Nat.reduceBEq, reduceCtorEq, al63, bd63, bs64_4, bs64_5, bs64_22, fa63_1, fa63_2, ld3, ld63, st3, st63, qc.rd 1 rfl, qc.rd 2 rfl]
        refine st_set qc 2 rfl fun Hd qd => ?_
        simp only [List.set_cons_zero, List.set_cons_succ] at qd
        simp -implicitDefEqProofs only [kz, kk0, kk1, kk2, kk3, ↓two_true, ↓two_false, mkv, aggAt, Nat.reduceLeDiff, Nat.reduceSub, Nat.reduceMul, implies_true, Nat.reduceEqDiff, reduceIte, Nat.reduceAdd, Nat.reduceBEq, reduceCtorEq, al63, bd63, bs64_4, bs64_5, bs64_22, fa63_1, fa63_2, ld3, ld63, st3, st63, qd.rd 1 rfl, qd.rd 2 rfl]
        exact ⟨_, _, _, rfl, qd.tail.tail.tail⟩
      · refine st_set qz 1 rfl fun Hd qd => ?_
        simp only [List.set_cons_zero, List.set_cons_succ] at qd
        simp -implicitDefEqProofs only [kz, kk0, kk1, kk2, kk3, ↓two_true, ↓two_false, mkv, aggAt, Nat.reduceLeDiff, Nat.reduceSub, Nat.reduceMul, implies_true, Nat.reduceEqDiff, reduceIte, Nat.reduceAdd, Nat.reduceBEq, reduceCtorEq, al63, bd63, bs64_4, bs64_5, bs64_22, fa63_1, fa63_2, ld3, ld63, st3, st63, qd.rd 0 rfl, qd.rd 1 rfl]
        exact ⟨_, _, _, rfl, qd.tail.tail⟩
  · have b0 : ((0 : Int) == 46) = false := rfl
    try simp -implicitDefEqProofs only [kz, kk0, kk1, kk2, kk3, ↓two_true, ↓two_false, mkv, aggAt, Nat.reduceLeDiff, Nat.reduceSub, Nat.reduceMul, implies_true, Nat.reduceEqDiff, reduceIte, Nat.reduceAdd, Nat.reduceBEq, reduceCtorEq, al63, bd63, bs64_4, bs64_5, bs64_22, fa63_1, fa63_2, ld3, ld63, st3, st63, q6.rd 0 rfl, q6.rd 1 rfl, b0]
    refine (l1Once_ok q6.curr).mono ?_
    rintro _ Hx ⟨⟨b2, rfl⟩, hf⟩
    have qz := q6.call hf
    simp -implicitDefEqProofs only [kz, kk0, kk1, kk2, kk3, ↓two_true, ↓two_false, mkv, aggAt, Nat.reduceLeDiff, Nat.reduceSub, Nat.reduceMul, implies_true, Nat.reduceEqDiff, reduceIte, Nat.reduceAdd, Nat.reduceBEq, reduceCtorEq, al63, bd63, bs64_4, bs64_5, bs64_22, fa63_1, fa63_2, ld3, ld63, st3, st63, qz.rd 0 rfl, qz.rd 1 rfl]
    refine two_intro (fun _ => ?_) (fun _ => ?_)
    · refine st_lit [43, 42, 105, 0] rfl rfl qz fun Ha qa => ?_
      simp -implicitDefEqProofs only [kz, kk0, kk1, kk2, kk3, ↓two_true, ↓two_false, mkv, aggAt, Nat.reduceLeDiff, Nat.reduceSub, Nat.reduceMul, implies_true, Nat.reduceEqDiff, reduceIte, Nat.reduceAdd, Nat.reduceBEq, reduceCtorEq, al63, bd63, bs64_4, bs64_5, bs64_22, fa63_1, fa63_2, ld3, ld63, st3, st63]
      refine (l1PickInt_ok qa.curr (qa.own 0 rfl) (qa.ncr 0 rfl) (by decide)).mono ?_
      rintro _ Hb ⟨⟨w, rfl, -⟩, hf⟩
      have qb := qa.call hf
      simp -implicitDefEqProofs only [kz, kk0, kk1, kk2, kk3, ↓two_true, ↓two_false, mkv, aggAt, Nat.reduceLeDiff, Nat.reduceSub, Nat.reduceMul, implies_true, Nat.reduceEqDiff, reduceIte, Nat.reduceAdd, Nat.reduceBEq, reduceCtorEq, al63, bd63, bs64_4, bs64_5, bs64_22, fa63_1, fa63_2, ld3, ld63, st3, st63, qb.rd 1 rfl, qb.rd 2 rfl]
      refine st_set qb 1 rfl fun Hc qc => ?_
      simp only [List.set_cons_zero, List.set_cons_succ] at qc
      simp -implicitDefEqProofs only [kz, kk0, kk1, kk2, kk3, ↓two_true, ↓two_false, mkv, aggAt, Nat.reduceLeDiff, Nat.reduceSub, Nat.reduceMul, implies_true, Nat.reduceEqDiff, reduceIte, Nat.reduceAdd, Nat.reduceBEq, reduceCtorEq, al63, bd63, bs64_4, bs64_5, bs64_22, fa63_1, fa63_2, ld3, ld63, st3, st63, qc.rd 1 rfl, qc.rd 2 rfl]
      refine st_set qc 2 rfl fun Hd qd => ?_
      simp only [List.set_cons_zero, List.set_cons_succ] at qd
      simp -implicitDefEqProofs only [kz, kk0, kk1, kk2, kk3, ↓two_true, ↓two_false, mkv, aggAt, Nat.reduceLeDiff, Nat.reduceSub, Nat.reduceMul, implies_true, Nat.reduceEqDiff, reduceIte, Nat.reduceAdd, Nat.reduceBEq, reduceCtorEq, al63, bd63, bs64_4, bs64_5, bs64_22, fa63_1, fa63_2, ld3, ld63, st3, st63, qd.rd 1 rfl, qd.rd 2 rfl]
      exact ⟨_, _, _, rfl, qd.tail.tail.tail⟩
    · refine st_set qz 1 rfl fun Hd qd => ?_
      simp only [List.set_cons_zero, List.set_cons_succ] at qd
      simp -implicitDefEqProofs only [kz, kk0, kk1, kk2, kk3, ↓two_true, ↓two_false, mkv, aggAt, Nat.reduceLeDiff, Nat.reduceSub, Nat.reduceMul, implies_true, Nat.reduceEqDiff, reduceIte, Nat.reduceAdd, Nat.reduceBEq, reduceCtorEq, al63, bd63, bs64_4, bs64_5, bs64_22, fa63_1, fa63_2, ld3, ld63, st3, st63, qd.rd 0 rfl, qd.rd 1 rfl]
      exact ⟨_, _, _, rfl, qd.tail.tail⟩

set_option maxHeartbeats 4000000 in
theorem l9DrawRight_ok {H0 H : AH} {L : List Ix} {cb : Nat} (q : LX (some cb) H0 H L) :
    CallsA Try.prog 79 #[.pointer (some ⟨cb, 0, none⟩)] H fun r H' => ∃ (na : Option Addr) (m nc : Nat) (xs : List Value) (V : List CV), r = .agg #[.slice na m nc] ∧ LX (some cb) H0 H' (.tab (.slice na m nc) kExpr m xs V :: L) ∧ m ≤ 60 ∧ PT (ndL V m) := by
  refine w79 ?_
  unfold k79
  simp -implicitDefEqProofs only [kz, kk0, kk1, kk2, kk3, ↓two_true, ↓two_false, mkv, aggAt, Nat.reduceLeDiff, Nat.reduceSub, Nat.reduceMul, implies_true, Nat.reduceEqDiff, reduceIte, Nat.reduceAdd, Nat.reduceBEq, reduceCtorEq, al39, bd39, bd77, bs37_1, bs64_2, ld39, st39]
  refine st_box q fun H1 q1 => ?_
  simp -implicitDefEqProofs only [kz, kk0, kk1, kk2, kk3, ↓two_true, ↓two_false, mkv, aggAt, Nat.reduceLeDiff, Nat.reduceSub, Nat.reduceMul, implies_true, Nat.reduceEqDiff, reduceIte, Nat.reduceAdd, Nat.reduceBEq, reduceCtorEq, al39, bd39, bd77, bs37_1, bs64_2, ld39, st39, q1.rd 0 rfl]
  refine rW_loop (σ := Nat) (fun i tm H' => tm 0 = .pointer (some ⟨cb, 0, none⟩) ∧ tm 2 = .pointer (some ⟨H.length, 0, none⟩) ∧ tm 3 = .int .i64 i ∧ i ≤ 6 ∧ LX (some cb) H0 H' (.own (.box H.length [.slice none 0 0]) :: L)) (fun i => 6 - i) 0 ?_ ?_
  · exact ⟨rfl, rfl, rfl, by omega, q1⟩
  · clear q1
    rintro i tm H2 ⟨h0, h2, h3, hi, q2⟩
    simp -implicitDefEqProofs only [kz, kk0, kk1, kk2, kk3, ↓two_true, ↓two_false, mkv, aggAt, Nat.reduceLeDiff, Nat.reduceSub, Nat.reduceMul, implies_true, Nat.reduceEqDiff, reduceIte, Nat.reduceAdd, Nat.reduceBEq, reduceCtorEq, al39, bd39, bd77, bs37_1, bs64_2, ld39, st39, h0, h2, h3]
    refine two_intro (fun u => ?_) (fun u => ?_)
    · have hlt : i < 6 := by have := of_decide_eq_true u; omega
      have wi : IntKind.i64.wrap ((i : Int) + 1) = ((i + 1 : Nat) : Int) := IntWalk.i64_in ((i : Int) + 1) (by omega)
      refine (l8DrawLine_ok q2.curr (by decide)).mono ?_
      rintro _ H3 ⟨⟨s, rfl, hs⟩, hf⟩
      have q3 := q2.call hf
      simp -implicitDefEqProofs only [kz, kk0, kk1, kk2, kk3, ↓two_true, ↓two_false, mkv, aggAt, Nat.reduceLeDiff, Nat.reduceSub, Nat.reduceMul, implies_true, Nat.reduceEqDiff, reduceIte, Nat.reduceAdd, Nat.reduceBEq, reduceCtorEq, al39, bd39, bd77, bs37_1, bs64_2, ld39, st39, h0, h2, h3]
      refine (specLex_ok (s := s) (by omega)).mono ?_
      rintro _ H4 ⟨⟨ta, tc, tys, rfl, tn, tV⟩, hK4⟩
      have q4 := q3.newF tn tV hK4
      have hlen := lexA_len (s := s)
      simp -implicitDefEqProofs only [kz, kk0, kk1, kk2, kk3, ↓two_true, ↓two_false, mkv, aggAt, Nat.reduceLeDiff, Nat.reduceSub, Nat.reduceMul, implies_true, Nat.reduceEqDiff, reduceIte, Nat.reduceAdd, Nat.reduceBEq, reduceCtorEq, al39, bd39, bd77, bs37_1, bs64_2, ld39, st39, h0, h2, h3]
      refine (parse_ok q4 rfl (by omega)).mono ?_
      rintro _ H5 ⟨na, m, nc, xs, V, code, rfl, q5, hp⟩
      simp -implicitDefEqProofs only [kz, kk0, kk1, kk2, kk3, ↓two_true, ↓two_false, mkv, aggAt, Nat.reduceLeDiff, Nat.reduceSub, Nat.reduceMul, implies_true, Nat.reduceEqDiff, reduceIte, Nat.reduceAdd, Nat.reduceBEq, reduceCtorEq, al39, bd39, bd77, bs37_1, bs64_2, ld39, st39, h0, h2, h3]
      refine st_box q5 fun H6 q6 => ?_
      simp -implicitDefEqProofs only [kz, kk0, kk1, kk2, kk3, ↓two_true, ↓two_false, mkv, aggAt, Nat.reduceLeDiff, Nat.reduceSub, Nat.reduceMul, implies_true, Nat.reduceEqDiff, reduceIte, Nat.reduceAdd, Nat.reduceBEq, reduceCtorEq, al39, bd39, bd77, bs37_1, bs64_2, ld39, st39, h0, h2, h3, q6.rd 0 rfl]
      refine st_set q6 0 rfl fun H7 q7 => ?_
      simp only [List.set_cons_zero, List.set_cons_succ] at q7
      simp -implicitDefEqProofs only [kz, kk0, kk1, kk2, kk3, ↓two_true, ↓two_false, mkv, aggAt, Nat.reduceLeDiff, Nat.reduceSub, Nat.reduceMul, implies_true, Nat.reduceEqDiff, reduceIte, Nat.reduceAdd, Nat.reduceBEq, reduceCtorEq, al39, bd39, bd77, bs37_1, bs64_2, ld39, st39, h0, h2, h3, q7.rd 0 rfl, q7.rd 2 rfl, wi]
      refine two_intro (fun v => ?_) (fun v => ?_)
      · have hc : code = 0 := by simpa using v
        refine st_set q7 2 rfl fun H8 q8 => ?_
        simp only [List.set_cons_zero, List.set_cons_succ] at q8
        simp -implicitDefEqProofs only [kz, kk0, kk1, kk2, kk3, ↓two_true, ↓two_false, mkv, aggAt, Nat.reduceLeDiff, Nat.reduceSub, Nat.reduceMul, implies_true, Nat.reduceEqDiff, reduceIte, Nat.reduceAdd, Nat.reduceBEq, reduceCtorEq, al39, bd39, bd77, bs37_1, bs64_2, ld39, st39, h0, h2, h3, q8.rd 0 rfl, q8.rd 2 rfl]
        have q9 := q8.front 3 [1] (by decide) rfl
        simp only [List.filterMap_cons, List.filterMap_nil, List.getElem?_cons_zero, List.getElem?_cons_succ, List.drop_succ_cons, List.drop_zero, List.cons_append, List.nil_append] at q9
        exact ⟨na, m, nc, xs, V, rfl, q9, hp hc⟩
      · have q9 := q7.front 3 [2] (by decide) rfl
        simp only [List.filterMap_cons, List.filterMap_nil, List.getElem?_cons_zero, List.getElem?_cons_succ, List.drop_succ_cons, List.drop_zero, List.cons_append, List.nil_append] at q9
        refine ⟨i + 1, by omega, ?_⟩
        first | exact ⟨rfl, rfl, rfl, hlt, q9⟩ | exact ⟨rfl, rfl, hlt, q9⟩ | exact ⟨rfl, hlt, q9⟩ | exact ⟨hlt, q9⟩
    · try simp -implicitDefEqProofs only [kz, kk0, kk1, kk2, kk3, ↓two_true, ↓two_false, mkv, aggAt, Nat.reduceLeDiff, Nat.reduceSub, Nat.reduceMul, implies_true, Nat.reduceEqDiff, reduceIte, Nat.reduceAdd, Nat.reduceBEq, reduceCtorEq, al39, bd39, bd77, bs37_1, bs64_2, ld39, st39, h0, h2, h3]
      refine st_lit [1, 2] rfl rfl q2 fun H3 q3 => ?_
      have q3 := q3.fzr 0 rfl
      simp only [List.set_cons_zero, List.set_cons_succ] at q3
      simp -implicitDefEqProofs only [kz, kk0, kk1, kk2, kk3, ↓two_true, ↓two_false, mkv, aggAt, Nat.reduceLeDiff, Nat.reduceSub, Nat.reduceMul, implies_true, Nat.reduceEqDiff, reduceIte, Nat.reduceAdd, Nat.reduceBEq, reduceCtorEq, al39, bd39, bd77, bs37_1, bs64_2, ld39, st39, h0, h2, h3]
      refine st_cells q3 fun H4 q4 => ?_
      have q4 := q4.tab1 0 rfl (fun B h => froRow (h.ok 1 _ rfl) (by decide))
      simp only [List.set_cons_zero, List.set_cons_succ] at q4
      simp -implicitDefEqProofs only [kz, kk0, kk1, kk2, kk3, ↓two_true, ↓two_false, mkv, aggAt, Nat.reduceLeDiff, Nat.reduceSub, Nat.reduceMul, implies_true, Nat.reduceEqDiff, reduceIte, Nat.reduceAdd, Nat.reduceBEq, reduceCtorEq, al39, bd39, bd77, bs37_1, bs64_2, ld39, st39, h0, h2, h3, q4.rd 2 rfl]
      refine st_set q4 2 rfl fun H5 q5 => ?_
      simp only [List.set_cons_zero, List.set_cons_succ] at q5
      simp -implicitDefEqProofs only [kz, kk0, kk1, kk2, kk3, ↓two_true, ↓two_false, mkv, aggAt, Nat.reduceLeDiff, Nat.reduceSub, Nat.reduceMul, implies_true, Nat.reduceEqDiff, reduceIte, Nat.reduceAdd, Nat.reduceBEq, reduceCtorEq, al39, bd39, bd77, bs37_1, bs64_2, ld39, st39, h0, h2, h3, q5.rd 2 rfl]
      have q6 := q5.front 3 [0] (by decide) rfl
      simp only [List.filterMap_cons, List.filterMap_nil, List.getElem?_cons_zero, List.getElem?_cons_succ, List.drop_succ_cons, List.drop_zero, List.cons_append, List.nil_append] at q6
      refine ⟨_, 1, 7, _, _, rfl, q6, by decide, ?_⟩
      rw [ndL_one rfl]
      exact PT.leaf (by decide) (show (1 : Int) < 3 by decide)

theorem set_cell {cs : List Value} {o i k : Nat} {x : Int} (hk : k < 6) : ∀ (d c : Nat) (y : Value), c < 7 → (cs.set (o + i * 7 + k) (.int .i64 x))[o + d * 7 + c]? = some y → cs[o + d * 7 + c]? = some y ∨ (c < 6 ∧ ∃ x, y = .int .i64 x) := by
  intro d c y hc h
  rcases Nat.decEq (o + i * 7 + k) (o + d * 7 + c) with e | e
  · rw [List.getElem?_set_ne e] at h; exact .inl h
  · rw [← e, List.getElem?_set] at h
    simp only [if_true] at h
    split at h
    · simp only [Option.some.injEq] at h; exact .inr ⟨by omega, x, h.symm⟩
    · cases h

set_option maxHeartbeats 4000000 in
theorem l9Draw_ok {H0 H : AH} {L : List Ix} {cb : Nat} (q : LX (some cb) H0 H L) :
    CallsA Try.prog 49 #[.pointer (some ⟨cb, 0, none⟩)] H fun r H' => ∃ (na : Option Addr) (m nc : Nat) (xs : List Value) (V : List CV), r = .agg #[.slice na m nc] ∧ LX (some cb) H0 H' (.tab (.slice na m nc) kExpr m xs V :: L) ∧ m ≤ 70 := by
  refine w49 ?_
  unfold k49
  simp -implicitDefEqProofs only [kz, kk0, kk1, kk2, kk3, ↓two_true, ↓two_false, mkv, aggAt, Nat.reduceLeDiff, Nat.reduceSub, Nat.reduceMul, implies_true, Nat.reduceEqDiff, reduceIte, Nat.reduceAdd, Nat.reduceBEq, reduceCtorEq, al39, ap37_37, bd63, bd77, bs37_1, fa39_0, fa77_0, fa77_1, fa77_2, fa77_3, ix37, ld37, ld39, ln37, sn37, sl37, st3, st37, st39, st63]
  refine st_box q fun H1 q1 => ?_
  simp -implicitDefEqProofs only [kz, kk0, kk1, kk2, kk3, ↓two_true, ↓two_false, mkv, aggAt, Nat.reduceLeDiff, Nat.reduceSub, Nat.reduceMul, implies_true, Nat.reduceEqDiff, reduceIte, Nat.reduceAdd, Nat.reduceBEq, reduceCtorEq, al39, ap37_37, bd63, bd77, bs37_1, fa39_0, fa77_0, fa77_1, fa77_2, fa77_3, ix37, ld37, ld39, ln37, sn37, sl37, st3, st37, st39, st63]
  refine (l9DrawRight_ok q1).mono ?_
  rintro _ H2 ⟨na, m, nc, xs, V, rfl, q2, hm, pt⟩
  have hm0 : 0 < m := by have := pt.pos; rw [ndL_len] at this; exact this
  obtain ⟨b, o, cs, rfl, rfl, hb, hle⟩ := q2.tabOp 0 rfl hm0
  clear hb hle cs
  simp -implicitDefEqProofs only [kz, kk0, kk1, kk2, kk3, ↓two_true, ↓two_false, mkv, aggAt, Nat.reduceLeDiff, Nat.reduceSub, Nat.reduceMul, implies_true, Nat.reduceEqDiff, reduceIte, Nat.reduceAdd, Nat.reduceBEq, reduceCtorEq, al39, ap37_37, bd63, bd77, bs37_1, fa39_0, fa77_0, fa77_1, fa77_2, fa77_3, ix37, ld37, ld39, ln37, sn37, sl37, st3, st37, st39, st63]
  refine st_box q2 fun H3 q3 => ?_
  simp -implicitDefEqProofs only [kz, kk0, kk1, kk2, kk3, ↓two_true, ↓two_false, mkv, aggAt, Nat.reduceLeDiff, Nat.reduceSub, Nat.reduceMul, implies_true, Nat.reduceEqDiff, reduceIte, Nat.reduceAdd, Nat.reduceBEq, reduceCtorEq, al39, ap37_37, bd63, bd77, bs37_1, fa39_0, fa77_0, fa77_1, fa77_2, fa77_3, ix37, ld37, ld39, ln37, sn37, sl37, st3, st37, st39, st63, q3.rd 0 rfl]
  refine st_set q3 0 rfl fun H4 q4 => ?_
  simp only [List.set_cons_zero, List.set_cons_succ] at q4
  simp -implicitDefEqProofs only [kz, kk0, kk1, kk2, kk3, ↓two_true, ↓two_false, mkv, aggAt, Nat.reduceLeDiff, Nat.reduceSub, Nat.reduceMul, implies_true, Nat.reduceEqDiff, reduceIte, Nat.reduceAdd, Nat.reduceBEq, reduceCtorEq, al39, ap37_37, bd63, bd77, bs37_1, fa39_0, fa77_0, fa77_1, fa77_2, fa77_3, ix37, ld37, ld39, ln37, sn37, sl37, st3, st37, st39, st63, q4.rd 0 rfl]
  refine (l1Below_ok q4.curr).mono ?_
  rintro _ H5 ⟨⟨v, rfl, -, hv⟩, hf⟩
  have hv := hv (by omega)
  obtain ⟨i, rfl⟩ : ∃ i : Nat, v = i := ⟨v.toNat, by omega⟩
  have hi : i < m := by omega
  have q5 := q4.call hf
  simp -implicitDefEqProofs only [kz, kk0, kk1, kk2, kk3, ↓two_true, ↓two_false, mkv, aggAt, Nat.reduceLeDiff, Nat.reduceSub, Nat.reduceMul, implies_true, Nat.reduceEqDiff, reduceIte, Nat.reduceAdd, Nat.reduceBEq, reduceCtorEq, al39, ap37_37, bd63, bd77, bs37_1, fa39_0, fa77_0, fa77_1, fa77_2, fa77_3, ix37, ld37, ld39, ln37, sn37, sl37, st3, st37, st39, st63]
  refine (l1Below_ok q5.curr).mono ?_
  rintro _ H6 ⟨⟨c, rfl, -, -⟩, hf⟩
  have q6 := q5.call hf
  simp -implicitDefEqProofs only [kz, kk0, kk1, kk2, kk3, ↓two_true, ↓two_false, mkv, aggAt, Nat.reduceLeDiff, Nat.reduceSub, Nat.reduceMul, implies_true, Nat.reduceEqDiff, reduceIte, Nat.reduceAdd, Nat.reduceBEq, reduceCtorEq, al39, ap37_37, bd63, bd77, bs37_1, fa39_0, fa77_0, fa77_1, fa77_2, fa77_3, ix37, ld37, ld39, ln37, sn37, sl37, st3, st37, st39, st63, q6.rd 0 rfl]
  have g1 : (0 : Int) ≤ (i : Int) ∧ (i : Int) < (m : Int) := by omega
  have wm : IntKind.i64.wrap ((m : Int) + 1) = (m : Int) + 1 := IntWalk.i64_in _ (by omega)
  have fin : ∀ {H9 : AH} {n nc2 : Nat} {a2 : Option Addr} {ys : List Value} {W : List CV} (_ : LX (some cb) H0 H9 (.own (.box H2.length [.slice a2 n nc2]) :: .tab (.slice a2 n nc2) kExpr n ys W :: .own (.box H.length [.slice none 0 0]) :: L)) (_ : n ≤ 70), True := fun _ _ => trivial
  refine two_intro (fun _ => ?_) (fun _ => two_intro (fun _ => ?_) (fun _ => two_intro (fun _ => ?_) (fun _ => two_intro (fun _ => ?_) (fun _ => two_intro (fun _ => ?_) (fun _ => two_intro (fun _ => ?_) (fun _ => two_intro (fun _ => ?_) (fun _ => ?_)))))))
  · refine (l1Below_ok q6.curr).mono ?_
    rintro _ H7 ⟨⟨x, rfl, -, -⟩, hf⟩
    have q7 := q6.call hf
    obtain ⟨b', o', cs, e, -, hb, hle⟩ := q7.tabOp 1 rfl hm0
    simp only [Option.some.injEq, Addr.mk.injEq] at e
    obtain ⟨rfl, rfl, -⟩ := e
    simp -implicitDefEqProofs only [kz, kk0, kk1, kk2, kk3, ↓two_true, ↓two_false, mkv, aggAt, Nat.reduceLeDiff, Nat.reduceSub, Nat.reduceMul, implies_true, Nat.reduceEqDiff, reduceIte, Nat.reduceAdd, Nat.reduceBEq, reduceCtorEq, al39, ap37_37, bd63, bd77, bs37_1, fa39_0, fa77_0, fa77_1, fa77_2, fa77_3, ix37, ld37, ld39, ln37, sn37, sl37, st3, st37, st39, st63, q7.rd 0 rfl, if_pos g1, Int.toNat_natCast, wrt_own hb, wm]
    refine ⟨by omega, ?_⟩
    obtain ⟨xs', V', qz⟩ := q7.tabSet 1 rfl hb hle (cs.set (o + i * 7) (.int .i64 x)) (by simp) (fun d c y _ hc h => set_cell (k := 0) (by decide) d c y hc h)
    simp only [List.set_cons_zero, List.set_cons_succ] at qz
    generalize (List.set H7 b _ : AH) = Hz at qz ⊢
    simp -implicitDefEqProofs only [kz, kk0, kk1, kk2, kk3, ↓two_true, ↓two_false, mkv, aggAt, Nat.reduceLeDiff, Nat.reduceSub, Nat.reduceMul, implies_true, Nat.reduceEqDiff, reduceIte, Nat.reduceAdd, Nat.reduceBEq, reduceCtorEq, al39, ap37_37, bd63, bd77, bs37_1, fa39_0, fa77_0, fa77_1, fa77_2, fa77_3, ix37, ld37, ld39, ln37, sn37, sl37, st3, st37, st39, st63, qz.rd 0 rfl, qz.rd 2 rfl]
    refine st_set qz 2 rfl fun Hy qy => ?_
    simp only [List.set_cons_zero, List.set_cons_succ] at qy
    simp -implicitDefEqProofs only [kz, kk0, kk1, kk2, kk3, ↓two_true, ↓two_false, mkv, aggAt, Nat.reduceLeDiff, Nat.reduceSub, Nat.reduceMul, implies_true, Nat.reduceEqDiff, reduceIte, Nat.reduceAdd, Nat.reduceBEq, reduceCtorEq, al39, ap37_37, bd63, bd77, bs37_1, fa39_0, fa77_0, fa77_1, fa77_2, fa77_3, ix37, ld37, ld39, ln37, sn37, sl37, st3, st37, st39, st63, qy.rd 0 rfl, qy.rd 2 rfl]
    have qx := qy.front 3 [1] (by decide) rfl
    simp only [List.filterMap_cons, List.filterMap_nil, List.getElem?_cons_zero, List.getElem?_cons_succ, List.drop_succ_cons, List.drop_zero, List.cons_append, List.nil_append] at qx
    exact ⟨_, _, _, _, _, rfl, qx, by omega⟩
  · refine (l1Below_ok q6.curr).mono ?_
    rintro _ H7 ⟨⟨x, rfl, -, hx⟩, hf⟩
    have q7 := q6.call hf
    obtain ⟨b', o', cs, e, -, hb, hle⟩ := q7.tabOp 1 rfl hm0
    simp only [Option.some.injEq, Addr.mk.injEq] at e
    obtain ⟨rfl, rfl, -⟩ := e
    have hx := hx (by omega)
    have wx : IntKind.i64.wrap (x - 1) = x - 1 := IntWalk.i64_in _ (by omega)
    simp -implicitDefEqProofs only [kz, kk0, kk1, kk2, kk3, ↓two_true, ↓two_false, mkv, aggAt, Nat.reduceLeDiff, Nat.reduceSub, Nat.reduceMul, implies_true, Nat.reduceEqDiff, reduceIte, Nat.reduceAdd, Nat.reduceBEq, reduceCtorEq, al39, ap37_37, bd63, bd77, bs37_1, fa39_0, fa77_0, fa77_1, fa77_2, fa77_3, ix37, ld37, ld39, ln37, sn37, sl37, st3, st37, st39, st63, q7.rd 0 rfl, if_pos g1, Int.toNat_natCast, wrt_own hb, wm, wx]
    refine ⟨by omega, ?_⟩
    obtain ⟨xs', V', qz⟩ := q7.tabSet 1 rfl hb hle (cs.set (o + i * 7 + 2) (.int .i64 (x - 1))) (by simp) (fun d c y _ hc h => set_cell (k := 2) (by decide) d c y hc h)
    simp only [List.set_cons_zero, List.set_cons_succ] at qz
    generalize (List.set H7 b _ : AH) = Hz at qz ⊢
    simp -implicitDefEqProofs only [kz, kk0, kk1, kk2, kk3, ↓two_true, ↓two_false, mkv, aggAt, Nat.reduceLeDiff, Nat.reduceSub, Nat.reduceMul, implies_true, Nat.reduceEqDiff, reduceIte, Nat.reduceAdd, Nat.reduceBEq, reduceCtorEq, al39, ap37_37, bd63, bd77, bs37_1, fa39_0, fa77_0, fa77_1, fa77_2, fa77_3, ix37, ld37, ld39, ln37, sn37, sl37, st3, st37, st39, st63, qz.rd 0 rfl, qz.rd 2 rfl]
    refine st_set qz 2 rfl fun Hy qy => ?_
    simp only [List.set_cons_zero, List.set_cons_succ] at qy
    simp -implicitDefEqProofs only [kz, kk0, kk1, kk2, kk3, ↓two_true, ↓two_false, mkv, aggAt, Nat.reduceLeDiff, Nat.reduceSub, Nat.reduceMul, implies_true, Nat.reduceEqDiff, reduceIte, Nat.reduceAdd, Nat.reduceBEq, reduceCtorEq, al39, ap37_37, bd63, bd77, bs37_1, fa39_0, fa77_0, fa77_1, fa77_2, fa77_3, ix37, ld37, ld39, ln37, sn37, sl37, st3, st37, st39, st63, qy.rd 0 rfl, qy.rd 2 rfl]
    have qx := qy.front 3 [1] (by decide) rfl
    simp only [List.filterMap_cons, List.filterMap_nil, List.getElem?_cons_zero, List.getElem?_cons_succ, List.drop_succ_cons, List.drop_zero, List.cons_append, List.nil_append] at qx
    exact ⟨_, _, _, _, _, rfl, qx, by omega⟩
  · refine (l1Below_ok q6.curr).mono ?_
    rintro _ H7 ⟨⟨x, rfl, -, hx⟩, hf⟩
    have q7 := q6.call hf
    obtain ⟨b', o', cs, e, -, hb, hle⟩ := q7.tabOp 1 rfl hm0
    simp only [Option.some.injEq, Addr.mk.injEq] at e
    obtain ⟨rfl, rfl, -⟩ := e
    have hx := hx (by omega)
    have wx : IntKind.i64.wrap (x - 1) = x - 1 := IntWalk.i64_in _ (by omega)
    simp -implicitDefEqProofs only [kz, kk0, kk1, kk2, kk3, ↓two_true, ↓two_false, mkv, aggAt, Nat.reduceLeDiff, Nat.reduceSub, Nat.reduceMul, implies_true, Nat.reduceEqDiff, reduceIte, Nat.reduceAdd, Nat.reduceBEq, reduceCtorEq, al39, ap37_37, bd63, bd77, bs37_1, fa39_0, fa77_0, fa77_1, fa77_2, fa77_3, ix37, ld37, ld39, ln37, sn37, sl37, st3, st37, st39, st63, q7.rd 0 rfl, if_pos g1, Int.toNat_natCast, wrt_own hb, wm, wx]
    refine ⟨by omega, ?_⟩
    obtain ⟨xs', V', qz⟩ := q7.tabSet 1 rfl hb hle (cs.set (o + i * 7 + 1) (.int .i64 (x - 1))) (by simp) (fun d c y _ hc h => set_cell (k := 1) (by decide) d c y hc h)
    simp only [List.set_cons_zero, List.set_cons_succ] at qz
    generalize (List.set H7 b _ : AH) = Hz at qz ⊢
    simp -implicitDefEqProofs only [kz, kk0, kk1, kk2, kk3, ↓two_true, ↓two_false, mkv, aggAt, Nat.reduceLeDiff, Nat.reduceSub, Nat.reduceMul, implies_true, Nat.reduceEqDiff, reduceIte, Nat.reduceAdd, Nat.reduceBEq, reduceCtorEq, al39, ap37_37, bd63, bd77, bs37_1, fa39_0, fa77_0, fa77_1, fa77_2, fa77_3, ix37, ld37, ld39, ln37, sn37, sl37, st3, st37, st39, st63, qz.rd 0 rfl, qz.rd 2 rfl]
    refine st_set qz 2 rfl fun Hy qy => ?_
    simp only [List.set_cons_zero, List.set_cons_succ] at qy
    simp -implicitDefEqProofs only [kz, kk0, kk1, kk2, kk3, ↓two_true, ↓two_false, mkv, aggAt, Nat.reduceLeDiff, Nat.reduceSub, Nat.reduceMul, implies_true, Nat.reduceEqDiff, reduceIte, Nat.reduceAdd, Nat.reduceBEq, reduceCtorEq, al39, ap37_37, bd63, bd77, bs37_1, fa39_0, fa77_0, fa77_1, fa77_2, fa77_3, ix37, ld37, ld39, ln37, sn37, sl37, st3, st37, st39, st63, qy.rd 0 rfl, qy.rd 2 rfl]
    have qx := qy.front 3 [1] (by decide) rfl
    simp only [List.filterMap_cons, List.filterMap_nil, List.getElem?_cons_zero, List.getElem?_cons_succ, List.drop_succ_cons, List.drop_zero, List.cons_append, List.nil_append] at qx
    exact ⟨_, _, _, _, _, rfl, qx, by omega⟩
  · refine (l9DrawFun_ok q6).mono ?_
    rintro _ H7 ⟨fs, fo, fw, rfl, q7⟩
    obtain ⟨b', o', cs, e, -, hb, hle⟩ := q7.tabOp 1 rfl hm0
    simp only [Option.some.injEq, Addr.mk.injEq] at e
    obtain ⟨rfl, rfl, -⟩ := e
    simp -implicitDefEqProofs only [kz, kk0, kk1, kk2, kk3, ↓two_true, ↓two_false, mkv, aggAt, Nat.reduceLeDiff, Nat.reduceSub, Nat.reduceMul, implies_true, Nat.reduceEqDiff, reduceIte, Nat.reduceAdd, Nat.reduceBEq, reduceCtorEq, al39, ap37_37, bd63, bd77, bs37_1, fa39_0, fa77_0, fa77_1, fa77_2, fa77_3, ix37, ld37, ld39, ln37, sn37, sl37, st3, st37, st39, st63, q7.rd 0 rfl, if_pos g1, Int.toNat_natCast, wrt_own hb]
    refine ⟨by omega, ?_⟩
    obtain ⟨xs', V', qz⟩ := q7.tabSet 1 rfl hb hle (((cs.set (o + i * 7 + 3) (.int .i64 fs)).set (o + i * 7 + 4) (.int .i64 fo)).set (o + i * 7 + 5) (.int .i64 fw)) (by simp) (fun d c y _ hc h => by
      rcases set_cell (k := 5) (by decide) d c y hc h with h | h
      · rcases set_cell (k := 4) (by decide) d c y hc h with h | h
        · exact set_cell (k := 3) (by decide) d c y hc h
        · exact .inr h
      · exact .inr h)
    simp only [List.set_cons_zero, List.set_cons_succ] at qz
    generalize (List.set H7 b _ : AH) = Hz at qz ⊢
    simp -implicitDefEqProofs only [kz, kk0, kk1, kk2, kk3, ↓two_true, ↓two_false, mkv, aggAt, Nat.reduceLeDiff, Nat.reduceSub, Nat.reduceMul, implies_true, Nat.reduceEqDiff, reduceIte, Nat.reduceAdd, Nat.reduceBEq, reduceCtorEq, al39, ap37_37, bd63, bd77, bs37_1, fa39_0, fa77_0, fa77_1, fa77_2, fa77_3, ix37, ld37, ld39, ln37, sn37, sl37, st3, st37, st39, st63, qz.rd 0 rfl, qz.rd 2 rfl]
    refine st_set qz 2 rfl fun Hy qy => ?_
    simp only [List.set_cons_zero, List.set_cons_succ] at qy
    simp -implicitDefEqProofs only [kz, kk0, kk1, kk2, kk3, ↓two_true, ↓two_false, mkv, aggAt, Nat.reduceLeDiff, Nat.reduceSub, Nat.reduceMul, implies_true, Nat.reduceEqDiff, reduceIte, Nat.reduceAdd, Nat.reduceBEq, reduceCtorEq, al39, ap37_37, bd63, bd77, bs37_1, fa39_0, fa77_0, fa77_1, fa77_2, fa77_3, ix37, ld37, ld39, ln37, sn37, sl37, st3, st37, st39, st63, qy.rd 0 rfl, qy.rd 2 rfl]
    have qx := qy.front 3 [1] (by decide) rfl
    simp only [List.filterMap_cons, List.filterMap_nil, List.getElem?_cons_zero, List.getElem?_cons_succ, List.drop_succ_cons, List.drop_zero, List.cons_append, List.nil_append] at qx
    exact ⟨_, _, _, _, _, rfl, qx, by omega⟩
  · have z0 : Int.toNat 0 = 0 := rfl
    have g2 : (0 : Int) ≤ 0 ∧ (0 : Int) ≤ (i : Int) ∧ (i : Int) ≤ (m : Int) := by omega
    simp -implicitDefEqProofs only [kz, kk0, kk1, kk2, kk3, ↓two_true, ↓two_false, mkv, aggAt, Nat.reduceLeDiff, Nat.reduceSub, Nat.reduceMul, implies_true, Nat.reduceEqDiff, reduceIte, Nat.reduceAdd, Nat.reduceBEq, reduceCtorEq, al39, ap37_37, bd63, bd77, bs37_1, fa39_0, fa77_0, fa77_1, fa77_2, fa77_3, ix37, ld37, ld39, ln37, sn37, sl37, st3, st37, st39, st63, q6.rd 0 rfl, z0, Int.toNat_natCast, Nat.zero_mul, Nat.sub_zero]
    refine ⟨g2, ?_⟩
    refine st_set q6 0 rfl fun H7 q7 => ?_
    simp only [List.set_cons_zero, List.set_cons_succ] at q7
    obtain ⟨V', qz⟩ := q7.tabTk 1 rfl i (by omega)
    simp only [List.set_cons_zero, List.set_cons_succ] at qz
    simp -implicitDefEqProofs only [kz, kk0, kk1, kk2, kk3, ↓two_true, ↓two_false, mkv, aggAt, Nat.reduceLeDiff, Nat.reduceSub, Nat.reduceMul, implies_true, Nat.reduceEqDiff, reduceIte, Nat.reduceAdd, Nat.reduceBEq, reduceCtorEq, al39, ap37_37, bd63, bd77, bs37_1, fa39_0, fa77_0, fa77_1, fa77_2, fa77_3, ix37, ld37, ld39, ln37, sn37, sl37, st3, st37, st39, st63, qz.rd 0 rfl, qz.rd 2 rfl]
    refine st_set qz 2 rfl fun Hy qy => ?_
    simp only [List.set_cons_zero, List.set_cons_succ] at qy
    simp -implicitDefEqProofs only [kz, kk0, kk1, kk2, kk3, ↓two_true, ↓two_false, mkv, aggAt, Nat.reduceLeDiff, Nat.reduceSub, Nat.reduceMul, implies_true, Nat.reduceEqDiff, reduceIte, Nat.reduceAdd, Nat.reduceBEq, reduceCtorEq, al39, ap37_37, bd63, bd77, bs37_1, fa39_0, fa77_0, fa77_1, fa77_2, fa77_3, ix37, ld37, ld39, ln37, sn37, sl37, st3, st37, st39, st63, qy.rd 0 rfl, qy.rd 2 rfl]
    have qx := qy.front 3 [1] (by decide) rfl
    simp only [List.filterMap_cons, List.filterMap_nil, List.getElem?_cons_zero, List.getElem?_cons_succ, List.drop_succ_cons, List.drop_zero, List.cons_append, List.nil_append] at qx
    exact ⟨_, _, _, _, _, rfl, qx, by omega⟩
  · try simp -implicitDefEqProofs only [kz, kk0, kk1, kk2, kk3, ↓two_true, ↓two_false, mkv, aggAt, Nat.reduceLeDiff, Nat.reduceSub, Nat.reduceMul, implies_true, Nat.reduceEqDiff, reduceIte, Nat.reduceAdd, Nat.reduceBEq, reduceCtorEq, al39, ap37_37, bd63, bd77, bs37_1, fa39_0, fa77_0, fa77_1, fa77_2, fa77_3, ix37, ld37, ld39, ln37, sn37, sl37, st3, st37, st39, st63, q6.rd 0 rfl]
    refine st_cells q6 fun H7 q7 => ?_
    simp -implicitDefEqProofs only [kz, kk0, kk1, kk2, kk3, ↓two_true, ↓two_false, mkv, aggAt, Nat.reduceLeDiff, Nat.reduceSub, Nat.reduceMul, implies_true, Nat.reduceEqDiff, reduceIte, Nat.reduceAdd, Nat.reduceBEq, reduceCtorEq, al39, ap37_37, bd63, bd77, bs37_1, fa39_0, fa77_0, fa77_1, fa77_2, fa77_3, ix37, ld37, ld39, ln37, sn37, sl37, st3, st37, st39, st63, q7.rd 0 rfl, q7.rd 1 rfl]
    refine st_app7 q7 2 0 rfl rfl (fun B h => nilRow) (by omega) fun a8 c8 H8 ys q8 => ?_
    simp only [List.set_cons_zero, List.set_cons_succ] at q8
    simp -implicitDefEqProofs only [kz, kk0, kk1, kk2, kk3, ↓two_true, ↓two_false, mkv, aggAt, Nat.reduceLeDiff, Nat.reduceSub, Nat.reduceMul, implies_true, Nat.reduceEqDiff, reduceIte, Nat.reduceAdd, Nat.reduceBEq, reduceCtorEq, al39, ap37_37, bd63, bd77, bs37_1, fa39_0, fa77_0, fa77_1, fa77_2, fa77_3, ix37, ld37, ld39, ln37, sn37, sl37, st3, st37, st39, st63, q8.rd 0 rfl, q8.rd 1 rfl]
    refine st_set q8 1 rfl fun H9 q9 => ?_
    simp only [List.set_cons_zero, List.set_cons_succ] at q9
    have qz := q9.tail
    simp -implicitDefEqProofs only [kz, kk0, kk1, kk2, kk3, ↓two_true, ↓two_false, mkv, aggAt, Nat.reduceLeDiff, Nat.reduceSub, Nat.reduceMul, implies_true, Nat.reduceEqDiff, reduceIte, Nat.reduceAdd, Nat.reduceBEq, reduceCtorEq, al39, ap37_37, bd63, bd77, bs37_1, fa39_0, fa77_0, fa77_1, fa77_2, fa77_3, ix37, ld37, ld39, ln37, sn37, sl37, st3, st37, st39, st63, qz.rd 0 rfl, qz.rd 2 rfl]
    refine st_set qz 2 rfl fun Hy qy => ?_
    simp only [List.set_cons_zero, List.set_cons_succ] at qy
    simp -implicitDefEqProofs only [kz, kk0, kk1, kk2, kk3, ↓two_true, ↓two_false, mkv, aggAt, Nat.reduceLeDiff, Nat.reduceSub, Nat.reduceMul, implies_true, Nat.reduceEqDiff, reduceIte, Nat.reduceAdd, Nat.reduceBEq, reduceCtorEq, al39, ap37_37, bd63, bd77, bs37_1, fa39_0, fa77_0, fa77_1, fa77_2, fa77_3, ix37, ld37, ld39, ln37, sn37, sl37, st3, st37, st39, st63, qy.rd 0 rfl, qy.rd 2 rfl]
    have qx := qy.front 3 [1] (by decide) rfl
    simp only [List.filterMap_cons, List.filterMap_nil, List.getElem?_cons_zero, List.getElem?_cons_succ, List.drop_succ_cons, List.drop_zero, List.cons_append, List.nil_append] at qx
    exact ⟨_, _, _, _, _, rfl, qx, by omega⟩
  · try simp -implicitDefEqProofs only [kz, kk0, kk1, kk2, kk3, ↓two_true, ↓two_false, mkv, aggAt, Nat.reduceLeDiff, Nat.reduceSub, Nat.reduceMul, implies_true, Nat.reduceEqDiff, reduceIte, Nat.reduceAdd, Nat.reduceBEq, reduceCtorEq, al39, ap37_37, bd63, bd77, bs37_1, fa39_0, fa77_0, fa77_1, fa77_2, fa77_3, ix37, ld37, ld39, ln37, sn37, sl37, st3, st37, st39, st63, q6.rd 0 rfl]
    refine rW_loop (σ := Nat) (fun n tm H' => tm 0 = .pointer (some ⟨cb, 0, none⟩) ∧ tm 2 = .pointer (some ⟨H.length, 0, none⟩) ∧ tm 3 = .pointer (some ⟨H2.length, 0, none⟩) ∧ n ≤ 61 ∧ 0 < n ∧ ∃ (a2 : Option Addr) (nc2 : Nat) (ys : List Value) (W : List CV), LX (some cb) H0 H' (.own (.box H2.length [.slice a2 n nc2]) :: .tab (.slice a2 n nc2) kExpr n ys W :: .own (.box H.length [.slice none 0 0]) :: L)) (fun n => 61 - n) m ?_ ?_
    · exact ⟨rfl, rfl, rfl, by omega, hm0, _, _, _, _, q6⟩
    · rintro n tm H7 ⟨h0, h2, h3, hn, hn0, a2, nc2, ys, W, q7⟩
      simp -implicitDefEqProofs only [kz, kk0, kk1, kk2, kk3, ↓two_true, ↓two_false, mkv, aggAt, Nat.reduceLeDiff, Nat.reduceSub, Nat.reduceMul, implies_true, Nat.reduceEqDiff, reduceIte, Nat.reduceAdd, Nat.reduceBEq, reduceCtorEq, al39, ap37_37, bd63, bd77, bs37_1, fa39_0, fa77_0, fa77_1, fa77_2, fa77_3, ix37, ld37, ld39, ln37, sn37, sl37, st3, st37, st39, st63, h0, h2, h3, q7.rd 0 rfl]
      refine (l1Below_ok q7.curr).mono ?_
      rintro _ H8 ⟨⟨x, rfl, -, hx⟩, hf⟩
      have hx := hx (by decide)
      have q8 := q7.call hf
      have wx : IntKind.i64.wrap (60 + x) = 60 + x := IntWalk.i64_in _ (by omega)
      have wn : IntKind.i64.wrap ((n : Int) - 1) = (n : Int) - 1 := IntWalk.i64_in _ (by omega)
      simp -implicitDefEqProofs only [kz, kk0, kk1, kk2, kk3, ↓two_true, ↓two_false, mkv, aggAt, Nat.reduceLeDiff, Nat.reduceSub, Nat.reduceMul, implies_true, Nat.reduceEqDiff, reduceIte, Nat.reduceAdd, Nat.reduceBEq, reduceCtorEq, al39, ap37_37, bd63, bd77, bs37_1, fa39_0, fa77_0, fa77_1, fa77_2, fa77_3, ix37, ld37, ld39, ln37, sn37, sl37, st3, st37, st39, st63, h0, h2, h3, q8.rd 0 rfl, wx, wn]
      refine two_intro (fun u => ?_) (fun u => ?_)
      · have hlt : n < 61 := by have := of_decide_eq_true u; omega
        refine st_cells q8 fun H9 q9 => ?_
        simp -implicitDefEqProofs only [kz, kk0, kk1, kk2, kk3, ↓two_true, ↓two_false, mkv, aggAt, Nat.reduceLeDiff, Nat.reduceSub, Nat.reduceMul, implies_true, Nat.reduceEqDiff, reduceIte, Nat.reduceAdd, Nat.reduceBEq, reduceCtorEq, al39, ap37_37, bd63, bd77, bs37_1, fa39_0, fa77_0, fa77_1, fa77_2, fa77_3, ix37, ld37, ld39, ln37, sn37, sl37, st3, st37, st39, st63, h0, h2, h3, q9.rd 0 rfl, q9.rd 1 rfl, wn]
        refine st_app7 q9 2 0 rfl rfl (fun B h => nilRow) (by omega) fun a8 c8 Ha zs qa => ?_
        simp only [List.set_cons_zero, List.set_cons_succ] at qa
        simp -implicitDefEqProofs only [kz, kk0, kk1, kk2, kk3, ↓two_true, ↓two_false, mkv, aggAt, Nat.reduceLeDiff, Nat.reduceSub, Nat.reduceMul, implies_true, Nat.reduceEqDiff, reduceIte, Nat.reduceAdd, Nat.reduceBEq, reduceCtorEq, al39, ap37_37, bd63, bd77, bs37_1, fa39_0, fa77_0, fa77_1, fa77_2, fa77_3, ix37, ld37, ld39, ln37, sn37, sl37, st3, st37, st39, st63, h0, h2, h3, qa.rd 0 rfl, qa.rd 1 rfl, wn]
        refine st_set qa 1 rfl fun Hb qb => ?_
        simp only [List.set_cons_zero, List.set_cons_succ] at qb
        simp -implicitDefEqProofs only [kz, kk0, kk1, kk2, kk3, ↓two_true, ↓two_false, mkv, aggAt, Nat.reduceLeDiff, Nat.reduceSub, Nat.reduceMul, implies_true, Nat.reduceEqDiff, reduceIte, Nat.reduceAdd, Nat.reduceBEq, reduceCtorEq, al39, ap37_37, bd63, bd77, bs37_1, fa39_0, fa77_0, fa77_1, fa77_2, fa77_3, ix37, ld37, ld39, ln37, sn37, sl37, st3, st37, st39, st63, h0, h2, h3]
        refine ⟨n + 1, by omega, ?_⟩
        first | exact ⟨rfl, rfl, rfl, hlt, by omega, _, _, _, _, qb.tail⟩ | exact ⟨hlt, by omega, _, _, _, _, qb.tail⟩ | exact ⟨hlt, _, _, _, _, qb.tail⟩
      · have qz := q8
        try simp -implicitDefEqProofs only [kz, kk0, kk1, kk2, kk3, ↓two_true, ↓two_false, mkv, aggAt, Nat.reduceLeDiff, Nat.reduceSub, Nat.reduceMul, implies_true, Nat.reduceEqDiff, reduceIte, Nat.reduceAdd, Nat.reduceBEq, reduceCtorEq, al39, ap37_37, bd63, bd77, bs37_1, fa39_0, fa77_0, fa77_1, fa77_2, fa77_3, ix37, ld37, ld39, ln37, sn37, sl37, st3, st37, st39, st63, h0, h2, h3]
        simp -implicitDefEqProofs only [kz, kk0, kk1, kk2, kk3, ↓two_true, ↓two_false, mkv, aggAt, Nat.reduceLeDiff, Nat.reduceSub, Nat.reduceMul, implies_true, Nat.reduceEqDiff, reduceIte, Nat.reduceAdd, Nat.reduceBEq, reduceCtorEq, al39, ap37_37, bd63, bd77, bs37_1, fa39_0, fa77_0, fa77_1, fa77_2, fa77_3, ix37, ld37, ld39, ln37, sn37, sl37, st3, st37, st39, st63, h0, h2, h3, qz.rd 0 rfl, qz.rd 2 rfl]
        refine st_set qz 2 rfl fun Hy qy => ?_
        simp only [List.set_cons_zero, List.set_cons_succ] at qy
        simp -implicitDefEqProofs only [kz, kk0, kk1, kk2, kk3, ↓two_true, ↓two_false, mkv, aggAt, Nat.reduceLeDiff, Nat.reduceSub, Nat.reduceMul, implies_true, Nat.reduceEqDiff, reduceIte, Nat.reduceAdd, Nat.reduceBEq, reduceCtorEq, al39, ap37_37, bd63, bd77, bs37_1, fa39_0, fa77_0, fa77_1, fa77_2, fa77_3, ix37, ld37, ld39, ln37, sn37, sl37, st3, st37, st39, st63, h0, h2, h3, qy.rd 0 rfl, qy.rd 2 rfl]
        have qx := qy.front 3 [1] (by decide) rfl
        simp only [List.filterMap_cons, List.filterMap_nil, List.getElem?_cons_zero, List.getElem?_cons_succ, List.drop_succ_cons, List.drop_zero, List.cons_append, List.nil_append] at qx
        exact ⟨_, _, _, _, _, rfl, qx, by omega⟩
  · have qz := q6
    simp -implicitDefEqProofs only [kz, kk0, kk1, kk2, kk3, ↓two_true, ↓two_false, mkv, aggAt, Nat.reduceLeDiff, Nat.reduceSub, Nat.reduceMul, implies_true, Nat.reduceEqDiff, reduceIte, Nat.reduceAdd, Nat.reduceBEq, reduceCtorEq, al39, ap37_37, bd63, bd77, bs37_1, fa39_0, fa77_0, fa77_1, fa77_2, fa77_3, ix37, ld37, ld39, ln37, sn37, sl37, st3, st37, st39, st63, qz.rd 0 rfl, qz.rd 2 rfl]
    refine st_set qz 2 rfl fun Hy qy => ?_
    simp only [List.set_cons_zero, List.set_cons_succ] at qy
    simp -implicitDefEqProofs only [kz, kk0, kk1, kk2, kk3, ↓two_true, ↓two_false, mkv, aggAt, Nat.reduceLeDiff, Nat.reduceSub, Nat.reduceMul, implies_true, Nat.reduceEqDiff, reduceIte, Nat.reduceAdd, Nat.reduceBEq, reduceCtorEq, al39, ap37_37, bd63, bd77, bs37_1, fa39_0, fa77_0, fa77_1, fa77_2, fa77_3, ix37, ld37, ld39, ln37, sn37, sl37, st3, st37, st39, st63, qy.rd 0 rfl, qy.rd 2 rfl]
    have qx := qy.front 3 [1] (by decide) rfl
    simp only [List.filterMap_cons, List.filterMap_nil, List.getElem?_cons_zero, List.getElem?_cons_succ, List.drop_succ_cons, List.drop_zero, List.cons_append, List.nil_append] at qx
    exact ⟨_, _, _, _, _, rfl, qx, by omega⟩

theorem loF_app {k : Nat} : ∀ {l r : List Int}, l.length = k → loF k (l ++ r) = loF k l := by
  induction k with
  | zero => intro l r _; rfl
  | succ k ih =>
    intro l r h
    cases l with
    | nil => simp at h
    | cons x t =>
      simp only [List.cons_append, loF, List.headD_cons, List.tail_cons]
      rw [ih (by simpa using h)]
theorem loF_un {k : Nat} : ∀ {y : Int}, 0 ≤ y → y < 256 ^ k → loF k ((List.range k).map fun j : Nat => IntKind.u8.wrap (y.fdiv (2 ^ (8 * j)))) = y := by
  induction k with
  | zero => intro y h0 h1; simp at h1; simp [loF]; omega
  | succ k ih =>
    intro y h0 h1
    rw [List.range_succ_eq_map, List.map_cons, List.map_map, loF, List.headD_cons, List.tail_cons]
    have e : ((List.range k).map ((fun j : Nat => IntKind.u8.wrap (y.fdiv (2 ^ (8 * j)))) ∘ Nat.succ)) = (List.range k).map fun j : Nat => IntKind.u8.wrap ((y / 256).fdiv (2 ^ (8 * j))) := by
      refine List.map_congr_left fun j _ => ?_
      simp only [Function.comp_apply]
      congr 1
      rw [Int.fdiv_eq_ediv_of_nonneg _ (Int.le_of_lt (Int.pow_pos (by decide))), Int.fdiv_eq_ediv_of_nonneg _ (Int.le_of_lt (Int.pow_pos (by decide)))]
      rw [show 8 * (Nat.succ j) = 8 + 8 * j by omega, Int.pow_add, show (2 : Int) ^ 8 = 256 by decide, ← Int.ediv_ediv_of_nonneg (by decide)]
    rw [e, ih (by omega) (by rw [Int.pow_succ] at h1; omega)]
    simp only [Nat.mul_zero, Int.pow_zero, Int.fdiv_one]
    rw [u8_mod]
    omega
theorem loF_le8 {y : Int} {r : List Int} (h0 : 0 ≤ y) (h1 : y < 18446744073709551616) : loF 8 (le8 y ++ r) = y := by
  rw [loF_app le8_len]
  exact loF_un h0 (by have e2 : (256 : Int) ^ 8 = 18446744073709551616 := by decide
                      omega)
theorem rdNums_of {r : List Int} : ∀ {xs : List Int}, xs.all numOk = true → rdNums nfI xs.length ((xs.flatMap fun n => le8 (n + 1000000000000)) ++ r) = some (xs, r)
  | [], _ => rfl
  | x :: t, h => by
    simp only [List.all_cons, Bool.and_eq_true] at h
    have hx : -1000000000000 ≤ x ∧ x ≤ 1000000000000 := by simpa [numOk, inB] using h.1
    rw [List.length_cons, List.flatMap_cons, List.append_assoc, rdNums]
    rw [if_neg (by rw [List.length_append, le8_len]; omega), loF_le8 (by omega) (by omega)]
    have e : nfI (x + 1000000000000) = some x := by unfold nfI; rw [if_neg (by omega)]; congr 1; omega
    have ed : (le8 (x + 1000000000000) ++ ((t.flatMap fun n => le8 (n + 1000000000000)) ++ r)).drop 8 = (t.flatMap fun n => le8 (n + 1000000000000)) ++ r := by
      have := List.drop_left (l₁ := le8 (x + 1000000000000)) (l₂ := (t.flatMap fun n => le8 (n + 1000000000000)) ++ r)
      rw [le8_len] at this
      exact this
    rw [e, ed]
    simp only
    rw [rdNums_of h.2]
    rfl
def insC (x : Ins) : List CV := [.i x.op, .i x.a, .i x.s, .i x.o, .i x.w, .r x.nums]
theorem sg_rng {s : Int} : (sg1 s = true ∨ sg2 s = true) → 0 ≤ s ∧ s ≤ 255 := by
  unfold sg1 sg2
  simp only [Bool.or_eq_true, beq_iff_eq]
  omega
theorem insOk_rng {x : Ins} (h : insOk x = true) : (0 ≤ x.op ∧ x.op ≤ 255) ∧ (0 ≤ x.a ∧ x.a ≤ 255) ∧ (0 ≤ x.s ∧ x.s ≤ 255) ∧ (0 ≤ x.o ∧ x.o ≤ 255) ∧ (0 ≤ x.w ∧ x.w ≤ 255) ∧ (x.op ≠ 1 → x.nums = []) := by
  unfold insOk at h
  simp only [Bool.or_eq_true, Bool.and_eq_true, beq_iff_eq, inB, decide_eq_true_eq] at h
  have hl : x.op ≠ 1 → x.nums = [] := fun hne => by
    refine List.eq_nil_of_length_eq_zero ?_
    omega
  rcases h with ((h | h) | h) | h
  · exact ⟨by omega, by omega, by omega, by omega, by omega, hl⟩
  · exact ⟨by omega, by omega, by omega, by omega, by omega, hl⟩
  · obtain ⟨h1, h2, h3, h4⟩ := h
    unfold funOne at h3
    simp only [Bool.or_eq_true, Bool.and_eq_true, beq_iff_eq] at h3
    have hs : 0 ≤ x.s ∧ x.s ≤ 255 := by
      rcases h3.2 with h5 | h5
      · rcases h5.2 with h6 | h6
        · exact sg_rng (.inl h6)
        · omega
      · exact sg_rng (.inr h5.2)
    exact ⟨by omega, by omega, hs, by omega, by omega, hl⟩
  · obtain ⟨h1, h2, h3, h4⟩ := h
    unfold funTwo at h3
    simp only [Bool.or_eq_true, Bool.and_eq_true, beq_iff_eq] at h3
    rcases h3 with h5 | h5
    · exact ⟨by omega, by omega, sg_rng (.inr h5.2.1), by omega, sg_rng (.inr h5.2.2), hl⟩
    · have hs : 0 ≤ x.s ∧ x.s ≤ 255 := by
        rcases h5.2 with h6 | h6
        · exact sg_rng (.inr h6.2)
        · rcases h6.2 with h7 | h7
          · exact sg_rng (.inr h7)
          · omega
      exact ⟨by omega, by omega, hs, by omega, by omega, hl⟩
theorem rdIns_of {x : Ins} {r : List Int} (h : insOk x = true) : rdIns nfI (pkI x ++ r) = some (insC x, r) := by
  obtain ⟨h1, h2, h3, h4, h5, h6⟩ := insOk_rng h
  have e5 : [x.op, x.a, x.s, x.o, x.w].map IntKind.u8.wrap = [x.op, x.a, x.s, x.o, x.w] := by simp [u8_inB h1, u8_inB h2, u8_inB h3, u8_inB h4, u8_inB h5]
  unfold pkI
  rw [e5]
  by_cases hop : x.op = 1
  · have hn := insOk_nums h hop
    simp only [numsOk, inB, Bool.and_eq_true, decide_eq_true_eq] at hn
    rw [if_pos hop]
    have l1 : IntKind.u8.wrap (x.nums.length : Int) = (x.nums.length : Int) % 256 := u8_mod
    have l2 : IntKind.u8.wrap ((x.nums.length : Int) / 256) = (x.nums.length : Int) / 256 := u8_inB (by omega)
    rw [l1, l2]
    unfold rdIns
    simp only [List.cons_append, List.nil_append, List.headD_cons, List.tail_cons, List.drop_succ_cons, List.drop_zero, List.length_cons, List.append_assoc]
    rw [if_neg (by omega), if_pos hop, if_neg (by omega)]
    have e : (loF 2 ((x.nums.length : Int) % 256 :: (x.nums.length : Int) / 256 :: ((x.nums.flatMap fun n => le8 (n + 1000000000000)) ++ r))).toNat = x.nums.length := by
      simp only [loF, List.headD_cons, List.tail_cons]
      omega
    rw [e, rdNums_of hn.2]
    rfl
  · rw [if_neg hop, List.append_nil]
    unfold rdIns
    simp only [List.cons_append, List.nil_append, List.headD_cons, List.tail_cons, List.drop_succ_cons, List.drop_zero, List.length_cons]
    rw [if_neg (by omega), if_neg hop]
    unfold insC
    rw [h6 hop]
theorem rdAll_of {r : List Int} : ∀ {l : List Ins}, l.all insOk = true → rdAll nfI l.length (l.flatMap pkI ++ r) = some (l.flatMap insC, r)
  | [], _ => rfl
  | x :: t, h => by
    simp only [List.all_cons, Bool.and_eq_true] at h
    rw [List.length_cons, List.flatMap_cons, List.append_assoc, rdAll, rdIns_of h.1]
    simp only
    rw [rdAll_of h.2]
    rfl
theorem insOf_C {x : Ins} : insOf (insC x) = x := rfl
theorem insL_C : ∀ {l : List Ins}, insL (l.flatMap insC) l.length = l
  | [] => rfl
  | x :: t => by
    rw [List.flatMap_cons, List.length_cons, insL_cons rfl, insL_C, insOf_C]
/-- What is packed is read as it was. -/
theorem rdR_pk {l : List Ins} (h : cdOk l = true) : rdR (pkA l) = some (l.flatMap insC) := by
  have h2 := h
  unfold cdOk at h2
  simp only [Bool.and_eq_true, inB, decide_eq_true_eq] at h2
  unfold pkA
  rw [if_pos h]
  unfold pkG
  rw [u8_inB (by omega)]
  simp only [rdR, Int.toNat_natCast]
  have := rdAll_of (r := []) h2.2.1
  rw [List.append_nil] at this
  rw [this]
  simp only
  exact if_pos (by rw [insL_C]; exact h)
theorem FRow.insV {H : AH} {v : Value} {n : Nat} {xs : List Value} (f : FRow H v kInstr n xs) : cvs H xs = (insL (cvs H xs) n).flatMap insC := by
  have hx : xs.length = n * 6 := f.len
  have hl : (cvs H xs).length = n * 6 := by simp [cvs, hx]
  have key : ∀ k, k ≤ n → (cvs H xs).take (k * 6) = ((insL (cvs H xs) n).take k).flatMap insC := by
    intro k
    induction k with
    | zero => intro _; simp
    | succ k ih =>
      intro hk
      have hx1 := f.elemn 6 rfl (i := k) (by omega)
      obtain ⟨op, a, s, o, w, y, ex, ky, e⟩ := all2_instr hx1
      have hg := insL_get (H := H) (xs := xs) (n := n) (i := k) (by omega)
      rw [e] at hg
      rw [List.take_add_one, hg, List.flatMap_append, ← ih (by omega), show (k + 1) * 6 = k * 6 + 6 by omega, List.take_add]
      congr 1
      have e3 : ((cvs H xs).drop (k * 6)).take 6 = (elm 6 xs k).map (cv H) := by simp [elm, cvs]
      rw [e3, ex]
      simp only [List.map_cons, List.map_nil, cv_int, cv_row ky.1, Option.toList_some, List.flatMap_cons, List.flatMap_nil, List.append_nil, insC]
  have := key n (Nat.le_refl _)
  rw [List.take_of_length_le (by omega), List.take_of_length_le (by rw [insL_len]; exact Nat.le_refl _)] at this
  exact this
theorem maxL_go : ∀ {l : List Int} {a : Int}, a ≤ l.foldl (fun a b => if b > a then b else a) a ∧ (∀ x ∈ l, x ≤ l.foldl (fun a b => if b > a then b else a) a) ∧ ∀ b : Int, a ≤ b → (∀ x ∈ l, x ≤ b) → l.foldl (fun a b => if b > a then b else a) a ≤ b
  | [], a => ⟨Int.le_refl _, by simp, fun b hb _ => hb⟩
  | y :: t, a => by
    obtain ⟨h1, h2, h3⟩ := maxL_go (l := t) (a := if y > a then y else a)
    rw [List.foldl_cons]
    refine ⟨?_, fun x hx => ?_, fun b hb hx => ?_⟩
    · split at h1 <;> rename_i hc <;> (try rw [if_pos hc]) <;> (try rw [if_neg hc]) <;> omega
    · rcases List.mem_cons.1 hx with rfl | hx
      · split at h1 <;> rename_i hc <;> (try rw [if_pos hc]) <;> (try rw [if_neg hc]) <;> omega
      · exact h2 x hx
    · refine h3 b ?_ fun x hx2 => hx x (List.mem_cons_of_mem _ hx2)
      have := hx y (List.mem_cons_self ..)
      split <;> omega
theorem maxL_ge {l : List Int} : 0 ≤ maxL l ∧ (∀ x ∈ l, x ≤ maxL l) ∧ ∀ b : Int, 0 ≤ b → (∀ x ∈ l, x ≤ b) → maxL l ≤ b := maxL_go
theorem cdDeep_rng {l : List Ins} (h : cdOk l = true) : 1 ≤ cdDeep l ∧ cdDeep l ≤ l.length := by
  unfold cdDeep
  rw [if_pos h]
  unfold cdOk at h
  simp only [Bool.and_eq_true, inB, decide_eq_true_eq, beq_iff_eq] at h
  obtain ⟨h1, h2, h3⟩ := maxL_ge (l := dL l)
  constructor
  · have := h2 (dAt l l.length) (List.mem_iff_getElem?.2 ⟨l.length, dL_get (Nat.le_refl _)⟩)
    omega
  · refine h3 _ (by omega) fun x hx => ?_
    unfold dL at hx
    obtain ⟨i, hi, rfl⟩ := List.mem_map.1 hx
    have := (dAt_le (l := l) (i := i)).2
    have := List.mem_range.1 hi
    omega

def cpIns (x : Nd) : Ins := ⟨x.k, if x.k = 2 ∨ x.k = 3 then x.a else 0, x.s, x.o, x.w, x.nums⟩
theorem cpV_C {l : List Nd} : cpV l = (l.map cpIns).flatMap insC := by
  unfold cpV
  rw [List.flatMap_map]
  rfl
set_option maxHeartbeats 4000000 in
theorem cpIns_ok {x : Nd} (h : ndOk x = true) : insOk (cpIns x) = true := by
  rcases nd_kind h with hk | hk | hk | hk | hk
  · simp only [ndOk, hk] at h; simp [insOk, cpIns, hk] at h ⊢; exact ⟨h.2.2.1, h.2.2.2⟩
  · simp only [ndOk, hk] at h; simp [insOk, cpIns, hk] at h ⊢; exact ⟨h.1, h.2.2.1, h.2.2.2⟩
  · simp only [ndOk, hk] at h; simp [insOk, cpIns, hk] at h ⊢; exact h
  · simp only [ndOk, hk] at h; simp [insOk, cpIns, hk] at h ⊢; exact h.2
  · simp only [ndOk, hk] at h; simp [insOk, cpIns, hk] at h ⊢; exact h
inductive Stk (own : List Int) : Nat → List Nat → Prop
  | nil : Stk own 0 []
  | cons {i t : Nat} {S : List Nat} (h1 : 1 ≤ t) (h2 : t ≤ i) (h3 : own[i - 1]? = some (t : Int)) (h4 : Stk own (i - t) S) : Stk own i (t :: S)
theorem Stk.mono {own l : List Int} {i : Nat} {S : List Nat} (h : Stk own i S) : Stk (own ++ l) i S := by
  induction h with
  | nil => exact .nil
  | cons h1 h2 h3 h4 ih => exact .cons h1 h2 (by rw [List.getElem?_append_left (List.getElem?_eq_some_iff.1 h3).1]; exact h3) ih
theorem Stk.inv {own : List Int} {i : Nat} {S : List Nat} (h : Stk own i S) (hi : 0 < i) : ∃ t S', S = t :: S' ∧ 1 ≤ t ∧ t ≤ i ∧ own[i - 1]? = some (t : Int) ∧ Stk own (i - t) S' := by
  cases h with
  | nil => omega
  | cons h1 h2 h3 h4 => exact ⟨_, _, rfl, h1, h2, h3, h4⟩
theorem Stk.step {acc : List Int} {S : List Nat} {x : Nd} {k : Int} (h : Stk acc acc.length S) (hk : ndOk x = true) (hn : nxt acc x = some k) :
    ∃ S1, Stk (acc ++ [k]) (acc.length + 1) S1 ∧ (S1.length : Int) = S.length + 1 - tk (cpIns x) ∧ tk (cpIns x) ≤ S.length := by
  have hlast : ∀ k : Int, (acc ++ [k])[acc.length + 1 - 1]? = some k := fun k => by rw [Nat.add_sub_cancel, List.getElem?_append_right (Nat.le_refl _), Nat.sub_self]; rfl
  unfold nxt at hn
  rcases nd_kind hk with hx | hx | hx | hx | hx
  · rw [if_pos (by omega)] at hn
    cases hn
    have ht : tk (cpIns x) = 0 := by unfold tk cpIns; simp only [hx]; decide
    refine ⟨1 :: S, .cons (by decide) (by omega) (hlast _) ?_, by simp; omega, by omega⟩
    rw [Nat.add_sub_cancel]; exact h.mono
  · rw [if_pos (by omega)] at hn
    cases hn
    have ht : tk (cpIns x) = 0 := by unfold tk cpIns; simp only [hx]; decide
    refine ⟨1 :: S, .cons (by decide) (by omega) (hlast _) ?_, by simp; omega, by omega⟩
    rw [Nat.add_sub_cancel]; exact h.mono
  · rw [if_neg (by omega)] at hn
    split at hn
    · cases hn
    · rename_i hc
      rw [if_pos (by omega)] at hn
      obtain ⟨t, S', rfl, h1, h2, h3, h4⟩ := h.inv (by omega)
      have e : gI acc ((acc.length : Int) - 1) = t := by
        have := gI_get (l := acc) (i := acc.length - 1) (by omega)
        rw [h3] at this
        rw [show (acc.length : Int) - 1 = ((acc.length - 1 : Nat) : Int) by omega]
        exact (Option.some.inj this).symm
      rw [e] at hn
      cases hn
      have ht : tk (cpIns x) = 1 := by unfold tk cpIns; simp only [hx]; decide
      refine ⟨(t + 1) :: S', .cons (by omega) (by omega) (by rw [hlast]; congr 1; try omega) ?_, by simp; try omega, by simp; try omega⟩
      rw [show acc.length + 1 - (t + 1) = acc.length - t by omega]; exact h4.mono
  · rw [if_neg (by omega)] at hn
    split at hn
    · cases hn
    · rename_i hc
      rw [if_pos (by omega)] at hn
      obtain ⟨t, S', rfl, h1, h2, h3, h4⟩ := h.inv (by omega)
      have e : gI acc ((acc.length : Int) - 1) = t := by
        have := gI_get (l := acc) (i := acc.length - 1) (by omega)
        rw [h3] at this
        rw [show (acc.length : Int) - 1 = ((acc.length - 1 : Nat) : Int) by omega]
        exact (Option.some.inj this).symm
      rw [e] at hn
      cases hn
      have ht : tk (cpIns x) = 1 := by unfold tk cpIns; simp only [hx]; decide
      refine ⟨(t + 1) :: S', .cons (by omega) (by omega) (by rw [hlast]; congr 1; try omega) ?_, by simp; try omega, by simp; try omega⟩
      rw [show acc.length + 1 - (t + 1) = acc.length - t by omega]; exact h4.mono
  · rw [if_neg (by omega)] at hn
    split at hn
    · cases hn
    · rename_i hc
      rw [if_neg (by omega)] at hn
      obtain ⟨t, S', rfl, h1, h2, h3, h4⟩ := h.inv (by omega)
      have e : gI acc ((acc.length : Int) - 1) = t := by
        have := gI_get (l := acc) (i := acc.length - 1) (by omega)
        rw [h3] at this
        rw [show (acc.length : Int) - 1 = ((acc.length - 1 : Nat) : Int) by omega]
        exact (Option.some.inj this).symm
      rw [e] at hn
      split at hn
      · cases hn
      · rename_i hd
        obtain ⟨u, S2, rfl, g1, g2, g3, g4⟩ := h4.inv (by omega)
        have e2 : gI acc ((acc.length : Int) - 1 - t) = u := by
          have := gI_get (l := acc) (i := acc.length - t - 1) (by omega)
          rw [g3] at this
          rw [show (acc.length : Int) - 1 - t = ((acc.length - t - 1 : Nat) : Int) by omega]
          exact (Option.some.inj this).symm
        rw [e2] at hn
        cases hn
        have ht : tk (cpIns x) = 2 := by unfold tk cpIns; simp only [hx]; decide
        refine ⟨(1 + t + u) :: S2, .cons (by omega) (by omega) (by rw [hlast]; congr 1; try omega) ?_, by simp; try omega, by simp; try omega⟩
        rw [show acc.length + 1 - (1 + t + u) = acc.length - t - u by omega]; exact g4.mono
theorem Stk.run : ∀ {l : List Nd} {acc w : List Int} {S : List Nat}, Stk acc acc.length S → l.all ndOk = true → ownG acc l = some w →
    ∃ S', Stk w w.length S' ∧ (S'.length : Int) = S.length + ((l.map cpIns).map fun x => 1 - tk x).sum ∧ ∀ (i : Nat) x, (l.map cpIns)[i]? = some x → tk x ≤ S.length + (((l.map cpIns).take i).map fun x => 1 - tk x).sum
  | [], acc, w, S, h, _, hw => by
    simp only [ownG, Option.some.injEq] at hw
    subst hw
    exact ⟨S, h, by simp, fun i x hx => by simp at hx⟩
  | y :: t, acc, w, S, h, ha, hw => by
    simp only [List.all_cons, Bool.and_eq_true] at ha
    rw [ownG] at hw
    cases hn : nxt acc y with
    | none => rw [hn] at hw; cases hw
    | some k =>
      rw [hn] at hw
      obtain ⟨S1, s1, s2, s3⟩ := h.step ha.1 hn
      have s1' : Stk (acc ++ [k]) (acc ++ [k]).length S1 := by simpa using s1
      obtain ⟨S', r1, r2, r3⟩ := Stk.run s1' ha.2 hw
      refine ⟨S', r1, ?_, ?_⟩
      · rw [r2]
        simp only [List.map_cons, List.sum_cons]
        omega
      · intro i x hx
        cases i with
        | zero =>
          simp only [List.map_cons, List.getElem?_cons_zero, Option.some.injEq] at hx
          subst hx
          simp only [List.take_zero, List.map_nil, List.sum_nil]
          omega
        | succ i =>
          simp only [List.map_cons, List.getElem?_cons_succ] at hx
          have := r3 i x hx
          simp only [List.map_cons, List.take_succ_cons, List.sum_cons]
          omega
set_option maxHeartbeats 4000000 in
theorem cp_ok {l : List Nd} (h : trOk l = true) : cdOk (l.map cpIns) = true := by
  unfold trOk at h
  simp only [Bool.and_eq_true, inB, decide_eq_true_eq] at h
  obtain ⟨h1, h2, h3⟩ := h
  cases hw : ownG [] l with
  | none => rw [hw] at h3; cases h3
  | some w =>
    rw [hw] at h3
    simp only [beq_iff_eq] at h3
    obtain ⟨S', s1, s2, s3⟩ := Stk.run (S := []) .nil h2 hw
    have hl : w.length = l.length := by
      have key : ∀ {l : List Nd} {acc w : List Int}, ownG acc l = some w → w.length = acc.length + l.length := by
        intro l
        induction l with
        | nil => intro acc w h; simp only [ownG, Option.some.injEq] at h; subst h; rfl
        | cons x t ih =>
          intro acc w h
          rw [ownG] at h
          cases hn : nxt acc x with
          | none => rw [hn] at h; cases h
          | some k => rw [hn] at h; have := ih h; simp at this ⊢; omega
      simpa using key hw
    have hS : (S'.length : Int) = 1 := by
      obtain ⟨t, S2, rfl, g1, g2, g3, g4⟩ := s1.inv (by omega)
      have e : gI w ((l.length : Int) - 1) = t := by
        have := gI_get (l := w) (i := w.length - 1) (by omega)
        rw [g3] at this
        rw [show (l.length : Int) - 1 = ((w.length - 1 : Nat) : Int) by omega]
        exact (Option.some.inj this).symm
      have ht : t = w.length := by omega
      rw [ht, Nat.sub_self] at g4
      cases g4 with
      | nil => rfl
      | cons h1 h2 => omega
    have hd : dAt (l.map cpIns) (l.map cpIns).length = 1 := by
      unfold dAt
      rw [List.take_length]
      simp only [List.length_nil] at s2
      omega
    unfold cdOk
    rw [hd]
    have h4 : (l.map cpIns).all insOk = true := by
      rw [List.all_map, List.all_eq_true]
      rw [List.all_eq_true] at h2
      exact fun y hy => cpIns_ok (h2 y hy)
    have h5 : dOk (l.map cpIns) = true := dOk_true fun i x hx => by
      have := s3 i x hx
      simp only [List.length_nil] at this
      unfold dAt
      omega
    rw [h4, h5]
    simp [inB]; omega

theorem FRow.ext2 {H H' : AH} {v : Value} {ks : List CK} {n : Nat} {xs : List Value} (h : FRow H v ks n xs) (he : ∃ K, H' = H ++ K) : FRow H' v ks n xs ∧ cvs H' xs = cvs H xs := by
  obtain ⟨K, rfl⟩ := he
  exact ⟨h.mono, h.vals⟩

theorem aggThree {cs : List Value} {o : Nat} {x y z : Value} (h0 : cs[o]? = some x) (h1 : cs[o + 1]? = some y) (h2 : cs[o + 2]? = some z) : aggAt 3 o cs = some (.agg #[x, y, z]) := by
  have l2 := (List.getElem?_eq_some_iff.1 h2).1
  unfold aggAt
  rw [if_pos (by omega)]
  have : (cs.drop o).take 3 = [x, y, z] := by
    refine List.ext_getElem? fun j => ?_
    match j with
    | 0 => rw [List.getElem?_take_of_lt (by decide), List.getElem?_drop]; exact h0
    | 1 => rw [List.getElem?_take_of_lt (by decide), List.getElem?_drop]; exact h1
    | 2 => rw [List.getElem?_take_of_lt (by decide), List.getElem?_drop]; exact h2
    | j + 3 => rw [List.getElem?_eq_none (by simp; omega), List.getElem?_eq_none (by simp)]
  rw [this]
theorem elm_map6 {s i : Nat} {H : AH} {xs ys : List Value} (h : cvs H xs = cvs H ys) : (elm s xs i).map (cv H) = (elm s ys i).map (cv H) := by
  have e := congrArg (fun l : List CV => (l.drop (i * s)).take s) h
  simpa [elm, cvs] using e
set_option maxHeartbeats 4000000 in
theorem sameCode_ok {H : AH} {v w : Value} {n : Nat} {xs ys : List Value} (hv : FRow H v kInstr n xs) (hw : FRow H w kInstr n ys) (hl : n ≤ 1073741824) (he : cvs H xs = cvs H ys) :
    CallsA Try.prog 27 #[v, w] H fun r H' => r = .bool true ∧ H' = H := by
  obtain ⟨a, c, rfl, gv⟩ := hv.opn 6 rfl
  obtain ⟨a', c', rfl, gw⟩ := hw.opn 6 rfl
  refine w27 ?_
  unfold k27
  simp -implicitDefEqProofs only [kz, kk0, kk1, kk2, kk3, ↓two_true, ↓two_false, oS_some, oM_some, mkv, aggAt, Nat.reduceLeDiff, Nat.reduceSub, Nat.reduceMul, implies_true, Nat.reduceEqDiff, reduceIte, Nat.reduceAdd, Nat.reduceBEq, reduceCtorEq, ef63, eg63, fa66_0, fa66_1, fa66_2, fa66_3, ix29, ld3, ld63, ld64, ln29, bne_self_eq_false]
  refine rW_loop (σ := Nat) (fun i tm H' => tm 0 = .slice a n c ∧ tm 1 = .slice a' n c' ∧ tm 5 = .int .i64 i ∧ H' = H ∧ i ≤ n) (fun i => n - i) 0 ?_ ?_
  · exact ⟨rfl, rfl, rfl, rfl, Nat.zero_le _⟩
  · rintro i tm H' ⟨h0, h1, h5, rfl, hi⟩
    simp -implicitDefEqProofs only [kz, kk0, kk1, kk2, kk3, ↓two_true, ↓two_false, oS_some, oM_some, mkv, aggAt, Nat.reduceLeDiff, Nat.reduceSub, Nat.reduceMul, implies_true, Nat.reduceEqDiff, reduceIte, Nat.reduceAdd, Nat.reduceBEq, reduceCtorEq, ef63, eg63, fa66_0, fa66_1, fa66_2, fa66_3, ix29, ld3, ld63, ld64, ln29, h0, h1, h5]
    refine two_intro (fun hc => ?_) (fun hc => ?_)
    · have hc' : i < n := by simpa using hc
      obtain ⟨b, o, cs, rfl, rfl, hrd, hle, hcell⟩ := gv (by omega)
      obtain ⟨b', o', cs', rfl, rfl, hrd', hle', hcell'⟩ := gw (by omega)
      have x1 := hv.elemn 6 rfl hc'
      have x2 := hw.elemn 6 rfl hc'
      have em := elm_map6 (s := 6) (i := i) he
      have d1 := (hcell i hc').2
      have d2 := (hcell' i hc').2
      generalize elm 6 xs i = ex at *
      generalize elm 6 ys i = ey at *
      obtain ⟨op, ia, is, io, iw, y, rfl, ky, -⟩ := all2_instr x1
      obtain ⟨op2, ia2, is2, io2, iw2, y2, rfl, ky2, -⟩ := all2_instr x2
      simp only [List.map_cons, List.map_nil, cv_int, cv_row ky.1, cv_row ky2.1, List.cons.injEq, CV.i.injEq, CV.r.injEq, and_true] at em
      obtain ⟨rfl, rfl, rfl, rfl, rfl, em⟩ := em
      have i1 : IntRow H' y (rowI H' y) := ky.1
      have i2 : IntRow H' y2 (rowI H' y2) := ky2.1
      rw [← em] at i2
      have hsz := ky.2
      have hsi := fun Φ => (sameInts_ok i1 i2 (by omega)).eq0 (Φ := Φ)
      have a0 := d1 0 _ rfl
      have a1 := d1 1 _ rfl
      have a2 := d1 2 _ rfl
      have a3 := d1 3 _ rfl
      have a4 := d1 4 _ rfl
      have a5 := d1 5 _ rfl
      have b0 := d2 0 _ rfl
      have b1 := d2 1 _ rfl
      have b2 := d2 2 _ rfl
      have b3 := d2 3 _ rfl
      have b4 := d2 4 _ rfl
      have b5 := d2 5 _ rfl
      rw [Nat.add_zero] at a0 b0
      have r1 := row_lt (s := 6) hc'
      have e1 : ld Try.prog 63 (o + i * 6 + 2) cs = some (.agg #[.int .i64 is, .int .i64 io, .int .i64 iw]) := by
        rw [ld63]
        exact aggThree a2 a3 a4
      have e2 : ld Try.prog 63 (o' + i * 6 + 2) cs' = some (.agg #[.int .i64 is, .int .i64 io, .int .i64 iw]) := by
        rw [ld63]
        exact aggThree b2 b3 b4
      simp -implicitDefEqProofs only [kz, kk0, kk1, kk2, kk3, ↓two_true, ↓two_false, oS_some, oM_some, mkv, aggAt, Nat.reduceLeDiff, Nat.reduceSub, Nat.reduceMul, implies_true, Nat.reduceEqDiff, reduceIte, Nat.reduceAdd, Nat.reduceBEq, reduceCtorEq, ef63, eg63, fa66_0, fa66_1, fa66_2, fa66_3, ix29, ld3, ld63, ld64, ln29, h0, h1, h5, Int.toNat_natCast, hrd, hrd', a0, a1, a5, b0, b1, b5, e1, e2, hsi, bne_self_eq_false, beq_self_eq_true, Bool.not_true, IntWalk.i64_in (↑i + 1) (by omega)]
      have gi : (0 : Int) ≤ (i : Int) ∧ (i : Int) < (n : Int) := by omega
      exact ⟨gi, gi, gi, gi, gi, gi, gi, gi, i + 1, by omega, rfl, hc'⟩
    · try simp -implicitDefEqProofs only [kz, kk0, kk1, kk2, kk3, ↓two_true, ↓two_false, oS_some, oM_some, mkv, aggAt, Nat.reduceLeDiff, Nat.reduceSub, Nat.reduceMul, implies_true, Nat.reduceEqDiff, reduceIte, Nat.reduceAdd, Nat.reduceBEq, reduceCtorEq, ef63, eg63, fa66_0, fa66_1, fa66_2, fa66_3, ix29, ld3, ld63, ld64, ln29, h0, h1, h5]

set_option maxHeartbeats 4000000 in
theorem drawCompile_ok {H : AH} {v : Value} (hv : BRv H v) : CallsA Try.prog 20 #[v] H fun r H' => ∃ (na : Option Addr) (m nc : Nat) (xs : List Value), r = .agg #[.slice na m nc] ∧ FRow H' (.slice na m nc) kExpr m xs ∧ m ≤ 70 := by
  refine w20 ?_
  unfold k20
  simp -implicitDefEqProofs only [kz, kk0, kk1, kk2, kk3, ↓two_true, ↓two_false, mkv, aggAt, Nat.reduceLeDiff, Nat.reduceSub, Nat.reduceMul, implies_true, Nat.reduceEqDiff, reduceIte, Nat.reduceAdd, Nat.reduceBEq, reduceCtorEq, al39, ld39, st39]
  refine st_box (LX.nil (H := H)) fun H1 q1 => ?_
  simp -implicitDefEqProofs only [kz, kk0, kk1, kk2, kk3, ↓two_true, ↓two_false, mkv, aggAt, Nat.reduceLeDiff, Nat.reduceSub, Nat.reduceMul, implies_true, Nat.reduceEqDiff, reduceIte, Nat.reduceAdd, Nat.reduceBEq, reduceCtorEq, al39, ld39, st39]
  refine (l1New_ok (hv.ext q1.ext)).mono ?_
  rintro _ H2 ⟨cb, rfl, hc, hle, hK⟩
  have q2 := q1.cursor hK hc hle
  simp -implicitDefEqProofs only [kz, kk0, kk1, kk2, kk3, ↓two_true, ↓two_false, mkv, aggAt, Nat.reduceLeDiff, Nat.reduceSub, Nat.reduceMul, implies_true, Nat.reduceEqDiff, reduceIte, Nat.reduceAdd, Nat.reduceBEq, reduceCtorEq, al39, ld39, st39]
  refine (l9Draw_ok q2).mono ?_
  rintro _ H3 ⟨na, m, nc, xs, V, rfl, q3, hm⟩
  simp -implicitDefEqProofs only [kz, kk0, kk1, kk2, kk3, ↓two_true, ↓two_false, mkv, aggAt, Nat.reduceLeDiff, Nat.reduceSub, Nat.reduceMul, implies_true, Nat.reduceEqDiff, reduceIte, Nat.reduceAdd, Nat.reduceBEq, reduceCtorEq, al39, ld39, st39, q3.rd 1 rfl]
  refine st_set q3 1 rfl fun H4 q4 => ?_
  simp only [List.set_cons_zero, List.set_cons_succ] at q4
  simp -implicitDefEqProofs only [kz, kk0, kk1, kk2, kk3, ↓two_true, ↓two_false, mkv, aggAt, Nat.reduceLeDiff, Nat.reduceSub, Nat.reduceMul, implies_true, Nat.reduceEqDiff, reduceIte, Nat.reduceAdd, Nat.reduceBEq, reduceCtorEq, al39, ld39, st39, q4.rd 1 rfl]
  exact ⟨na, m, nc, xs, rfl, (q4.tb 0 rfl).1, hm⟩

set_option maxHeartbeats 4000000 in
theorem law5 : LawA Try.prog 5 [22] := by
  intro H vs hro h
  obtain ⟨v, vs, rfl, hv, h2⟩ := h.cons
  obtain rfl := h2.nil
  obtain ⟨a0, n0, c0, rfl, hb⟩ := rpBytes hv Try.underlying22 Try.underlying5 (by kernel_rfl)
  clear hv h2 hro
  refine w5 ?_
  unfold k5
  simp -implicitDefEqProofs only [kz, kk0, kk1, kk2, kk3, ↓two_true, ↓two_false, oS_some, oM_some, mkv, aggAt, Nat.reduceLeDiff, Nat.reduceSub, Nat.reduceMul, implies_true, Nat.reduceEqDiff, reduceIte, Nat.reduceAdd, Nat.reduceBEq, reduceCtorEq, al39, fa39_0, ld37, ld39, ln29, ln37, st39, (bin_bool_eql ub4), (bin_bool_neq ub4), big_eq]
  refine two_intro (fun h => trivial) (fun h => ?_)
  have hn0 : n0 ≤ 1048576 := by simp at h; omega
  refine (drawCompile_ok ⟨a0, n0, c0, rfl, hn0, hb⟩).mono ?_
  rintro _ H1 ⟨na, n, nc, xs, rfl, f, hn⟩
  clear hb h hn0
  have b0 : ∀ {H' : AH}, (∃ K, H' = (H1 ++ [⟨[.slice na n nc], .own⟩] : AH) ++ K) → rd H' H1.length = some [.slice na n nc] := fun {H'} hK => rd_ext (rd_own (by rw [gt0]; rfl)) hK
  have f := f.mono (L := [⟨[.slice na n nc], .own⟩])
  simp -implicitDefEqProofs only [kz, kk0, kk1, kk2, kk3, ↓two_true, ↓two_false, oS_some, oM_some, mkv, aggAt, Nat.reduceLeDiff, Nat.reduceSub, Nat.reduceMul, implies_true, Nat.reduceEqDiff, reduceIte, Nat.reduceAdd, Nat.reduceBEq, reduceCtorEq, al39, fa39_0, ld37, ld39, ln29, ln37, st39, (bin_bool_eql ub4), (bin_bool_neq ub4), b0 ⟨[], (List.append_nil _).symm⟩]
  refine (implCompile_ok f (by omega)).mono ?_
  generalize hH : (H1 ++ [⟨[.slice na n nc], .own⟩] : AH) = Hb at *
  clear hH
  rintro _ H2 ⟨⟨ga, gc, gm, gys, rfl, nw, hV, hm, hmn⟩, hK2⟩
  have e2 := hK2
  simp -implicitDefEqProofs only [kz, kk0, kk1, kk2, kk3, ↓two_true, ↓two_false, oS_some, oM_some, mkv, aggAt, Nat.reduceLeDiff, Nat.reduceSub, Nat.reduceMul, implies_true, Nat.reduceEqDiff, reduceIte, Nat.reduceAdd, Nat.reduceBEq, reduceCtorEq, al39, fa39_0, ld37, ld39, ln29, ln37, st39, (bin_bool_eql ub4), (bin_bool_neq ub4), b0 e2]
  obtain ⟨f2, v2⟩ := f.ext2 hK2
  have ht := specTreeOk_ok f2 (by omega)
  rw [v2] at ht
  refine ht.mono ?_
  rintro _ H3 ⟨rfl, hK3⟩
  have e3 := ext_trans e2 hK3
  obtain ⟨f3, v3⟩ := f2.ext2 hK3
  rw [v2] at v3
  simp -implicitDefEqProofs only [kz, kk0, kk1, kk2, kk3, ↓two_true, ↓two_false, oS_some, oM_some, mkv, aggAt, Nat.reduceLeDiff, Nat.reduceSub, Nat.reduceMul, implies_true, Nat.reduceEqDiff, reduceIte, Nat.reduceAdd, Nat.reduceBEq, reduceCtorEq, al39, fa39_0, ld37, ld39, ln29, ln37, st39, (bin_bool_eql ub4), (bin_bool_neq ub4), b0 e3, bne_self_eq_false]
  have ht := implTreeOk_ok f3 (by omega)
  rw [v3] at ht
  refine ht.mono ?_
  rintro _ H4 ⟨rfl, hK4⟩
  have e4 := ext_trans e3 hK4
  have fg := nw.ot.frow
  obtain ⟨fg3, gv3⟩ := fg.ext2 hK3
  obtain ⟨fg4, g4⟩ := fg3.ext2 hK4
  rw [gv3, hV] at g4
  clear gv3 fg3 fg nw hV f3 v3 f2 v2
  simp -implicitDefEqProofs only [kz, kk0, kk1, kk2, kk3, ↓two_true, ↓two_false, oS_some, oM_some, mkv, aggAt, Nat.reduceLeDiff, Nat.reduceSub, Nat.reduceMul, implies_true, Nat.reduceEqDiff, reduceIte, Nat.reduceAdd, Nat.reduceBEq, reduceCtorEq, al39, fa39_0, ld37, ld39, ln29, ln37, st39, (bin_bool_eql ub4), (bin_bool_neq ub4), bne_self_eq_false]
  generalize hl : ndL (cvs Hb xs) n = l at *
  have hln : l.length = n := by rw [← hl, ndL_len]
  cases htr : trOk l with
  | false =>
    rw [htr] at g4
    have hx : gys.length = gm * 6 := fg4.len
    have hg : gys.length = 0 := by
      have := congrArg List.length g4
      simpa [cvs] using this
    obtain rfl : gm = 0 := by omega
    simp -implicitDefEqProofs only [kz, kk0, kk1, kk2, kk3, ↓two_true, ↓two_false, oS_some, oM_some, mkv, aggAt, Nat.reduceLeDiff, Nat.reduceSub, Nat.reduceMul, implies_true, Nat.reduceEqDiff, reduceIte, Nat.reduceAdd, Nat.reduceBEq, reduceCtorEq, al39, fa39_0, ld37, ld39, ln29, ln37, st39, (bin_bool_eql ub4), (bin_bool_neq ub4), Bool.not_false]
    rfl
  | true =>
    rw [htr, if_pos rfl] at g4
    obtain rfl := hmn htr
    simp -implicitDefEqProofs only [kz, kk0, kk1, kk2, kk3, ↓two_true, ↓two_false, oS_some, oM_some, mkv, aggAt, Nat.reduceLeDiff, Nat.reduceSub, Nat.reduceMul, implies_true, Nat.reduceEqDiff, reduceIte, Nat.reduceAdd, Nat.reduceBEq, reduceCtorEq, al39, fa39_0, ld37, ld39, ln29, ln37, st39, (bin_bool_eql ub4), (bin_bool_neq ub4), Bool.not_true]
    have hins : insL (cvs H4 gys) gm = l.map cpIns := by
      rw [g4, cpV_C]
      have := insL_C (l := l.map cpIns)
      rw [List.length_map, hln] at this
      exact this
    have hcd : cdOk (insL (cvs H4 gys) gm) = true := by rw [hins]; exact cp_ok htr
    have hp := implPack_ok fg4 (by omega)
    rw [hcd] at hp
    refine hp.mono ?_
    rintro _ H5 ⟨⟨w, rfl, bw⟩, hK5⟩
    have e5 := ext_trans e4 hK5
    simp -implicitDefEqProofs only [kz, kk0, kk1, kk2, kk3, ↓two_true, ↓two_false, oS_some, oM_some, mkv, aggAt, Nat.reduceLeDiff, Nat.reduceSub, Nat.reduceMul, implies_true, Nat.reduceEqDiff, reduceIte, Nat.reduceAdd, Nat.reduceBEq, reduceCtorEq, al39, fa39_0, ld37, ld39, ln29, ln37, st39, (bin_bool_eql ub4), (bin_bool_neq ub4)]
    have hpl := pkA_len (l := insL (cvs H4 gys) gm)
    refine (implRead_ok bw.row byOk_pkA (by omega)).mono ?_
    rw [rdR_pk hcd]
    rintro _ H6 ⟨⟨bk, bm, bys, rfl, nb, hbV, hbm⟩, hK6⟩
    have e6 := ext_trans e5 hK6
    obtain ⟨f5, v5⟩ := fg4.ext2 hK5
    obtain ⟨f6, v6⟩ := f5.ext2 hK6
    rw [v5] at v6
    rw [Option.getD_some, ← fg4.insV] at hbV
    have hbn : bm = gm := by
      have h1 : bys.length = bm * 6 := nb.ot.frow.len
      have h2 : gys.length = gm * 6 := fg4.len
      have h3 := congrArg List.length hbV
      simp only [cvs, List.length_map] at h3
      omega
    subst hbn
    have fb := nb.ot.frow
    obtain ⟨bka, bkc, rfl, -⟩ := fb.op
    simp -implicitDefEqProofs only [kz, kk0, kk1, kk2, kk3, ↓two_true, ↓two_false, oS_some, oM_some, mkv, aggAt, Nat.reduceLeDiff, Nat.reduceSub, Nat.reduceMul, implies_true, Nat.reduceEqDiff, reduceIte, Nat.reduceAdd, Nat.reduceBEq, reduceCtorEq, al39, fa39_0, ld37, ld39, ln29, ln37, st39, (bin_bool_eql ub4), (bin_bool_neq ub4)]
    have hd := implCodeDeep_ok f6 (by omega)
    rw [v6] at hd
    refine hd.mono ?_
    rintro _ H7 ⟨rfl, hK7⟩
    obtain ⟨f7, v7⟩ := f6.ext2 hK7
    rw [v6] at v7
    obtain ⟨fb7, vb7⟩ := fb.ext2 hK7
    rw [hbV] at vb7
    have e7 := ext_trans e6 hK7
    simp -implicitDefEqProofs only [kz, kk0, kk1, kk2, kk3, ↓two_true, ↓two_false, oS_some, oM_some, mkv, aggAt, Nat.reduceLeDiff, Nat.reduceSub, Nat.reduceMul, implies_true, Nat.reduceEqDiff, reduceIte, Nat.reduceAdd, Nat.reduceBEq, reduceCtorEq, al39, fa39_0, ld37, ld39, ln29, ln37, st39, (bin_bool_eql ub4), (bin_bool_neq ub4)]
    have ho := implCodeOk_ok f7 (by omega)
    rw [v7, hcd] at ho
    refine ho.mono ?_
    rintro _ H8 ⟨rfl, hK8⟩
    obtain ⟨f8, v8⟩ := f7.ext2 hK8
    rw [v7] at v8
    obtain ⟨fb8, vb8⟩ := fb7.ext2 hK8
    rw [vb7] at vb8
    have e8 := ext_trans e7 hK8
    simp -implicitDefEqProofs only [kz, kk0, kk1, kk2, kk3, ↓two_true, ↓two_false, oS_some, oM_some, mkv, aggAt, Nat.reduceLeDiff, Nat.reduceSub, Nat.reduceMul, implies_true, Nat.reduceEqDiff, reduceIte, Nat.reduceAdd, Nat.reduceBEq, reduceCtorEq, al39, fa39_0, ld37, ld39, ln29, ln37, st39, (bin_bool_eql ub4), (bin_bool_neq ub4), b0 e8, beq_self_eq_true, Option.isSome_some]
    refine (sameCode_ok fb8 f8 (by omega) (by rw [vb8, v8])).mono ?_
    rintro _ _ ⟨rfl, rfl⟩
    obtain ⟨r1, r2⟩ := cdDeep_rng hcd
    rw [insL_len] at r2
    have d1 : decide (cdDeep (insL (cvs H4 gys) bm) ≥ 1) = true := decide_eq_true r1
    have d2 : decide (cdDeep (insL (cvs H4 gys) bm) ≤ (bm : Int)) = true := decide_eq_true r2
    simp -implicitDefEqProofs only [kz, kk0, kk1, kk2, kk3, ↓two_true, ↓two_false, oS_some, oM_some, mkv, aggAt, Nat.reduceLeDiff, Nat.reduceSub, Nat.reduceMul, implies_true, Nat.reduceEqDiff, reduceIte, Nat.reduceAdd, Nat.reduceBEq, reduceCtorEq, al39, fa39_0, ld37, ld39, ln29, ln37, st39, (bin_bool_eql ub4), (bin_bool_neq ub4), d1, d2]
    have hd := specCodeDeep_ok f8 (by omega)
    rw [v8] at hd
    refine hd.mono ?_
    rintro _ H9 ⟨rfl, -⟩
    simp -implicitDefEqProofs only [kz, kk0, kk1, kk2, kk3, ↓two_true, ↓two_false, oS_some, oM_some, mkv, aggAt, Nat.reduceLeDiff, Nat.reduceSub, Nat.reduceMul, implies_true, Nat.reduceEqDiff, reduceIte, Nat.reduceAdd, Nat.reduceBEq, reduceCtorEq, al39, fa39_0, ld37, ld39, ln29, ln37, st39, (bin_bool_eql ub4), (bin_bool_neq ub4), beq_self_eq_true]

end Go.Proofs.Ytdagncfnkenbfaa.AM
