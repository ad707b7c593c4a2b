/- What the functions answer, part 4. -/
import Derived.Test.YtdagncfnkenbfaaP3
set_option linter.unusedVariables false
set_option linter.unusedSimpArgs false
set_option linter.defProp false
set_option maxRecDepth 100000
/- What the functions answer, part 4. -/
namespace Go.Proofs.Ytdagncfnkenbfaa.AM
open Go Go.Proofs.Ytdagncfnkenbfaa Go.Proofs
set_option maxHeartbeats 4000000 in
theorem l9Fun_ok {c0 : Option Nat} {H0 H : AH} {L : List Ix} {cb : Nat} {ta na : Option Addr} {tc nt at' nm nc : Nat} {ts : List Value} {toks : List (Int × Int)} (q : LX c0 H0 H (.own (.box cb [.slice ta nt tc, .int .i64 (at' : Nat), .slice na nm nc]) :: .ftab (.slice ta nt tc) kToken nt ts (tokV toks) :: L)) (hl : toks.length = nt) (h3 : nt ≤ 300) (h4 : at' ≤ nt) :
    CallsA Try.prog 111 #[.pointer (some ⟨cb, 0, none⟩)] H fun r H' => ∃ (s o w : Int) (ok : Bool) (a2 : Nat), r = .tuple #[.agg #[.int .i64 s, .int .i64 o, .int .i64 w], .bool ok] ∧ LX c0 H0 H' (.own (.box cb [.slice ta nt tc, .int .i64 (a2 : Nat), .slice na nm nc]) :: .ftab (.slice ta nt tc) kToken nt ts (tokV toks) :: L) ∧ at' ≤ a2 ∧ a2 ≤ nt ∧ (ok = true → at' < a2) ∧ (ok = false → a2 = at') ∧ (tkS toks at' ≠ 0 → ok = true) := by
  refine w111 ?_
  unfold k111
  simp -implicitDefEqProofs only [kz, kk0, kk1, kk2, kk3, ↓two_true, ↓two_false, mkv, aggAt, Nat.reduceLeDiff, Nat.reduceSub, Nat.reduceMul, implies_true, Nat.reduceEqDiff, reduceIte, Nat.reduceAdd, Nat.reduceBEq, reduceCtorEq, al63, bd63, fa120_1, ld3, ld63, st3, st63]
  refine st_box q fun H1 q1 => ?_
  have t1 := q1.tc 1 2 rfl rfl rfl hl h3 h4
  have s0 : ∀ Φ, CallsA Try.prog 114 #[.pointer (some ⟨cb, 0, none⟩), .int .i64 0] H1 Φ = Φ (.int .i64 (tkS toks at')) H1 := fun Φ => l9Sign_eq (k := 0) t1 (by decide)
  have s1 : ∀ Φ, CallsA Try.prog 114 #[.pointer (some ⟨cb, 0, none⟩), .int .i64 1] H1 Φ = Φ (.int .i64 (tkS toks (at' + 1))) H1 := fun Φ => l9Sign_eq (k := 1) t1 (by decide)
  have s2 : ∀ Φ, CallsA Try.prog 114 #[.pointer (some ⟨cb, 0, none⟩), .int .i64 2] H1 Φ = Φ (.int .i64 (tkS toks (at' + 2))) H1 := fun Φ => l9Sign_eq (k := 2) t1 (by decide)
  have i0 := tkS_in (l := toks) (i := at')
  have i1 := tkS_in (l := toks) (i := at' + 1)
  have i2 := tkS_in (l := toks) (i := at' + 2)
  have w1 : IntKind.i64.wrap ((at' : Int) + 1) = ((at' + 1 : Nat) : Int) := by rw [IntWalk.i64_in _ (by omega)]; omega
  have w2 : IntKind.i64.wrap ((at' : Int) + 2) = ((at' + 2 : Nat) : Int) := by rw [IntWalk.i64_in _ (by omega)]; omega
  have w3 : IntKind.i64.wrap ((at' : Int) + 3) = ((at' + 3 : Nat) : Int) := by rw [IntWalk.i64_in _ (by omega)]; omega
  generalize tkS toks at' = a at *
  generalize tkS toks (at' + 1) = b at *
  generalize tkS toks (at' + 2) = d at *
  clear t1
  simp -implicitDefEqProofs only [kz, kk0, kk1, kk2, kk3, ↓two_true, ↓two_false, mkv, aggAt, Nat.reduceLeDiff, Nat.reduceSub, Nat.reduceMul, implies_true, Nat.reduceEqDiff, reduceIte, Nat.reduceAdd, Nat.reduceBEq, reduceCtorEq, al63, bd63, fa120_1, ld3, ld63, st3, st63, s0, s1, s2, q1.rd 0 rfl, q1.rd 1 rfl, w1, w2, w3]
  refine two_intro (fun u => ?_) (fun u => ?_)
  · refine st_set q1 0 rfl fun H2 q2 => ?_
    simp only [List.set_cons_zero, List.set_cons_succ] at q2
    simp -implicitDefEqProofs only [kz, kk0, kk1, kk2, kk3, ↓two_true, ↓two_false, mkv, aggAt, Nat.reduceLeDiff, Nat.reduceSub, Nat.reduceMul, implies_true, Nat.reduceEqDiff, reduceIte, Nat.reduceAdd, Nat.reduceBEq, reduceCtorEq, al63, bd63, fa120_1, ld3, ld63, st3, st63, q2.rd 0 rfl, q2.rd 1 rfl]
    exact ⟨0, 0, 0, false, at', rfl, q2.tail, Nat.le_refl _, h4, (fun h => by cases h), (fun _ => rfl), fun h => absurd (by simpa using u) h⟩
  · have ha0 : a ≠ 0 := by simpa using u
    refine two_intro (fun u => ?_) (fun u => ?_)
    · refine two_intro (fun u => ?_) (fun u => ?_)
      · have hb0 : b ≠ 0 := by simpa using u
        have hx : at' + 2 ≤ nt := by have := i1 hb0; omega
        try simp -implicitDefEqProofs only [kz, kk0, kk1, kk2, kk3, ↓two_true, ↓two_false, mkv, aggAt, Nat.reduceLeDiff, Nat.reduceSub, Nat.reduceMul, implies_true, Nat.reduceEqDiff, reduceIte, Nat.reduceAdd, Nat.reduceBEq, reduceCtorEq, al63, bd63, fa120_1, ld3, ld63, st3, st63, q1.rd 0 rfl, q1.rd 1 rfl, w1, w2, w3]
        refine st_set q1 1 rfl fun H2 q2 => ?_
        simp only [List.set_cons_zero, List.set_cons_succ] at q2
        simp -implicitDefEqProofs only [kz, kk0, kk1, kk2, kk3, ↓two_true, ↓two_false, mkv, aggAt, Nat.reduceLeDiff, Nat.reduceSub, Nat.reduceMul, implies_true, Nat.reduceEqDiff, reduceIte, Nat.reduceAdd, Nat.reduceBEq, reduceCtorEq, al63, bd63, fa120_1, ld3, ld63, st3, st63, q2.rd 0 rfl, q2.rd 1 rfl, w1, w2, w3]
        refine st_set q2 0 rfl fun H3 q3 => ?_
        simp only [List.set_cons_zero, List.set_cons_succ] at q3
        simp -implicitDefEqProofs only [kz, kk0, kk1, kk2, kk3, ↓two_true, ↓two_false, mkv, aggAt, Nat.reduceLeDiff, Nat.reduceSub, Nat.reduceMul, implies_true, Nat.reduceEqDiff, reduceIte, Nat.reduceAdd, Nat.reduceBEq, reduceCtorEq, al63, bd63, fa120_1, ld3, ld63, st3, st63, q3.rd 0 rfl, q3.rd 1 rfl]
        exact ⟨_, _, _, true, _, rfl, q3.tail, by omega, hx, (fun _ => by omega), (fun h => by cases h), fun _ => rfl⟩
      · refine two_intro (fun u => ?_) (fun u => ?_)
        · have hb0 : b ≠ 0 := by intro e; subst e; exact absurd u (by decide)
          have hx : at' + 2 ≤ nt := by have := i1 hb0; omega
          try simp -implicitDefEqProofs only [kz, kk0, kk1, kk2, kk3, ↓two_true, ↓two_false, mkv, aggAt, Nat.reduceLeDiff, Nat.reduceSub, Nat.reduceMul, implies_true, Nat.reduceEqDiff, reduceIte, Nat.reduceAdd, Nat.reduceBEq, reduceCtorEq, al63, bd63, fa120_1, ld3, ld63, st3, st63, q1.rd 0 rfl, q1.rd 1 rfl, w1, w2, w3]
          refine st_set q1 1 rfl fun H2 q2 => ?_
          simp only [List.set_cons_zero, List.set_cons_succ] at q2
          simp -implicitDefEqProofs only [kz, kk0, kk1, kk2, kk3, ↓two_true, ↓two_false, mkv, aggAt, Nat.reduceLeDiff, Nat.reduceSub, Nat.reduceMul, implies_true, Nat.reduceEqDiff, reduceIte, Nat.reduceAdd, Nat.reduceBEq, reduceCtorEq, al63, bd63, fa120_1, ld3, ld63, st3, st63, q2.rd 0 rfl, q2.rd 1 rfl, w1, w2, w3]
          refine st_set q2 0 rfl fun H3 q3 => ?_
          simp only [List.set_cons_zero, List.set_cons_succ] at q3
          simp -implicitDefEqProofs only [kz, kk0, kk1, kk2, kk3, ↓two_true, ↓two_false, mkv, aggAt, Nat.reduceLeDiff, Nat.reduceSub, Nat.reduceMul, implies_true, Nat.reduceEqDiff, reduceIte, Nat.reduceAdd, Nat.reduceBEq, reduceCtorEq, al63, bd63, fa120_1, ld3, ld63, st3, st63, q3.rd 0 rfl, q3.rd 1 rfl]
          exact ⟨_, _, _, true, _, rfl, q3.tail, by omega, hx, (fun _ => by omega), (fun h => by cases h), fun _ => rfl⟩
        · refine two_intro (fun u => ?_) (fun u => ?_)
          · have hb0 : b ≠ 0 := by intro e; subst e; exact absurd u (by decide)
            have hx : at' + 2 ≤ nt := by have := i1 hb0; omega
            try simp -implicitDefEqProofs only [kz, kk0, kk1, kk2, kk3, ↓two_true, ↓two_false, mkv, aggAt, Nat.reduceLeDiff, Nat.reduceSub, Nat.reduceMul, implies_true, Nat.reduceEqDiff, reduceIte, Nat.reduceAdd, Nat.reduceBEq, reduceCtorEq, al63, bd63, fa120_1, ld3, ld63, st3, st63, q1.rd 0 rfl, q1.rd 1 rfl, w1, w2, w3]
            refine st_set q1 1 rfl fun H2 q2 => ?_
            simp only [List.set_cons_zero, List.set_cons_succ] at q2
            simp -implicitDefEqProofs only [kz, kk0, kk1, kk2, kk3, ↓two_true, ↓two_false, mkv, aggAt, Nat.reduceLeDiff, Nat.reduceSub, Nat.reduceMul, implies_true, Nat.reduceEqDiff, reduceIte, Nat.reduceAdd, Nat.reduceBEq, reduceCtorEq, al63, bd63, fa120_1, ld3, ld63, st3, st63, q2.rd 0 rfl, q2.rd 1 rfl, w1, w2, w3]
            refine st_set q2 0 rfl fun H3 q3 => ?_
            simp only [List.set_cons_zero, List.set_cons_succ] at q3
            simp -implicitDefEqProofs only [kz, kk0, kk1, kk2, kk3, ↓two_true, ↓two_false, mkv, aggAt, Nat.reduceLeDiff, Nat.reduceSub, Nat.reduceMul, implies_true, Nat.reduceEqDiff, reduceIte, Nat.reduceAdd, Nat.reduceBEq, reduceCtorEq, al63, bd63, fa120_1, ld3, ld63, st3, st63, q3.rd 0 rfl, q3.rd 1 rfl]
            exact ⟨_, _, _, true, _, rfl, q3.tail, by omega, hx, (fun _ => by omega), (fun h => by cases h), fun _ => rfl⟩
          · refine two_intro (fun u => ?_) (fun u => ?_)
            · refine two_intro (fun u => ?_) (fun u => ?_)
              · have hd0 : d ≠ 0 := by simpa using u
                have hx : at' + 3 ≤ nt := by have := i2 hd0; omega
                try simp -implicitDefEqProofs only [kz, kk0, kk1, kk2, kk3, ↓two_true, ↓two_false, mkv, aggAt, Nat.reduceLeDiff, Nat.reduceSub, Nat.reduceMul, implies_true, Nat.reduceEqDiff, reduceIte, Nat.reduceAdd, Nat.reduceBEq, reduceCtorEq, al63, bd63, fa120_1, ld3, ld63, st3, st63, q1.rd 0 rfl, q1.rd 1 rfl, w1, w2, w3]
                refine st_set q1 1 rfl fun H2 q2 => ?_
                simp only [List.set_cons_zero, List.set_cons_succ] at q2
                simp -implicitDefEqProofs only [kz, kk0, kk1, kk2, kk3, ↓two_true, ↓two_false, mkv, aggAt, Nat.reduceLeDiff, Nat.reduceSub, Nat.reduceMul, implies_true, Nat.reduceEqDiff, reduceIte, Nat.reduceAdd, Nat.reduceBEq, reduceCtorEq, al63, bd63, fa120_1, ld3, ld63, st3, st63, q2.rd 0 rfl, q2.rd 1 rfl, w1, w2, w3]
                refine st_set q2 0 rfl fun H3 q3 => ?_
                simp only [List.set_cons_zero, List.set_cons_succ] at q3
                simp -implicitDefEqProofs only [kz, kk0, kk1, kk2, kk3, ↓two_true, ↓two_false, mkv, aggAt, Nat.reduceLeDiff, Nat.reduceSub, Nat.reduceMul, implies_true, Nat.reduceEqDiff, reduceIte, Nat.reduceAdd, Nat.reduceBEq, reduceCtorEq, al63, bd63, fa120_1, ld3, ld63, st3, st63, q3.rd 0 rfl, q3.rd 1 rfl]
                exact ⟨_, _, _, true, _, rfl, q3.tail, by omega, hx, (fun _ => by omega), (fun h => by cases h), fun _ => rfl⟩
              · have hx : at' + 1 ≤ nt := by have := i0 ha0; omega
                try simp -implicitDefEqProofs only [kz, kk0, kk1, kk2, kk3, ↓two_true, ↓two_false, mkv, aggAt, Nat.reduceLeDiff, Nat.reduceSub, Nat.reduceMul, implies_true, Nat.reduceEqDiff, reduceIte, Nat.reduceAdd, Nat.reduceBEq, reduceCtorEq, al63, bd63, fa120_1, ld3, ld63, st3, st63, q1.rd 0 rfl, q1.rd 1 rfl, w1, w2, w3]
                refine st_set q1 1 rfl fun H2 q2 => ?_
                simp only [List.set_cons_zero, List.set_cons_succ] at q2
                simp -implicitDefEqProofs only [kz, kk0, kk1, kk2, kk3, ↓two_true, ↓two_false, mkv, aggAt, Nat.reduceLeDiff, Nat.reduceSub, Nat.reduceMul, implies_true, Nat.reduceEqDiff, reduceIte, Nat.reduceAdd, Nat.reduceBEq, reduceCtorEq, al63, bd63, fa120_1, ld3, ld63, st3, st63, q2.rd 0 rfl, q2.rd 1 rfl, w1, w2, w3]
                refine st_set q2 0 rfl fun H3 q3 => ?_
                simp only [List.set_cons_zero, List.set_cons_succ] at q3
                simp -implicitDefEqProofs only [kz, kk0, kk1, kk2, kk3, ↓two_true, ↓two_false, mkv, aggAt, Nat.reduceLeDiff, Nat.reduceSub, Nat.reduceMul, implies_true, Nat.reduceEqDiff, reduceIte, Nat.reduceAdd, Nat.reduceBEq, reduceCtorEq, al63, bd63, fa120_1, ld3, ld63, st3, st63, q3.rd 0 rfl, q3.rd 1 rfl]
                exact ⟨_, _, _, true, _, rfl, q3.tail, by omega, hx, (fun _ => by omega), (fun h => by cases h), fun _ => rfl⟩
            · have hx : at' + 1 ≤ nt := by have := i0 ha0; omega
              try simp -implicitDefEqProofs only [kz, kk0, kk1, kk2, kk3, ↓two_true, ↓two_false, mkv, aggAt, Nat.reduceLeDiff, Nat.reduceSub, Nat.reduceMul, implies_true, Nat.reduceEqDiff, reduceIte, Nat.reduceAdd, Nat.reduceBEq, reduceCtorEq, al63, bd63, fa120_1, ld3, ld63, st3, st63, q1.rd 0 rfl, q1.rd 1 rfl, w1, w2, w3]
              refine st_set q1 1 rfl fun H2 q2 => ?_
              simp only [List.set_cons_zero, List.set_cons_succ] at q2
              simp -implicitDefEqProofs only [kz, kk0, kk1, kk2, kk3, ↓two_true, ↓two_false, mkv, aggAt, Nat.reduceLeDiff, Nat.reduceSub, Nat.reduceMul, implies_true, Nat.reduceEqDiff, reduceIte, Nat.reduceAdd, Nat.reduceBEq, reduceCtorEq, al63, bd63, fa120_1, ld3, ld63, st3, st63, q2.rd 0 rfl, q2.rd 1 rfl, w1, w2, w3]
              refine st_set q2 0 rfl fun H3 q3 => ?_
              simp only [List.set_cons_zero, List.set_cons_succ] at q3
              simp -implicitDefEqProofs only [kz, kk0, kk1, kk2, kk3, ↓two_true, ↓two_false, mkv, aggAt, Nat.reduceLeDiff, Nat.reduceSub, Nat.reduceMul, implies_true, Nat.reduceEqDiff, reduceIte, Nat.reduceAdd, Nat.reduceBEq, reduceCtorEq, al63, bd63, fa120_1, ld3, ld63, st3, st63, q3.rd 0 rfl, q3.rd 1 rfl]
              exact ⟨_, _, _, true, _, rfl, q3.tail, by omega, hx, (fun _ => by omega), (fun h => by cases h), fun _ => rfl⟩
    · refine two_intro (fun u => ?_) (fun u => ?_)
      · have hb0 : b ≠ 0 := by intro e; subst e; exact absurd u (by decide)
        have hx : at' + 2 ≤ nt := by have := i1 hb0; omega
        try simp -implicitDefEqProofs only [kz, kk0, kk1, kk2, kk3, ↓two_true, ↓two_false, mkv, aggAt, Nat.reduceLeDiff, Nat.reduceSub, Nat.reduceMul, implies_true, Nat.reduceEqDiff, reduceIte, Nat.reduceAdd, Nat.reduceBEq, reduceCtorEq, al63, bd63, fa120_1, ld3, ld63, st3, st63, q1.rd 0 rfl, q1.rd 1 rfl, w1, w2, w3]
        refine st_set q1 1 rfl fun H2 q2 => ?_
        simp only [List.set_cons_zero, List.set_cons_succ] at q2
        simp -implicitDefEqProofs only [kz, kk0, kk1, kk2, kk3, ↓two_true, ↓two_false, mkv, aggAt, Nat.reduceLeDiff, Nat.reduceSub, Nat.reduceMul, implies_true, Nat.reduceEqDiff, reduceIte, Nat.reduceAdd, Nat.reduceBEq, reduceCtorEq, al63, bd63, fa120_1, ld3, ld63, st3, st63, q2.rd 0 rfl, q2.rd 1 rfl, w1, w2, w3]
        refine st_set q2 0 rfl fun H3 q3 => ?_
        simp only [List.set_cons_zero, List.set_cons_succ] at q3
        simp -implicitDefEqProofs only [kz, kk0, kk1, kk2, kk3, ↓two_true, ↓two_false, mkv, aggAt, Nat.reduceLeDiff, Nat.reduceSub, Nat.reduceMul, implies_true, Nat.reduceEqDiff, reduceIte, Nat.reduceAdd, Nat.reduceBEq, reduceCtorEq, al63, bd63, fa120_1, ld3, ld63, st3, st63, q3.rd 0 rfl, q3.rd 1 rfl]
        exact ⟨_, _, _, true, _, rfl, q3.tail, by omega, hx, (fun _ => by omega), (fun h => by cases h), fun _ => rfl⟩
      · refine two_intro (fun u => ?_) (fun u => ?_)
        · have hb0 : b ≠ 0 := by intro e; subst e; exact absurd u (by decide)
          have hx : at' + 2 ≤ nt := by have := i1 hb0; omega
          try simp -implicitDefEqProofs only [kz, kk0, kk1, kk2, kk3, ↓two_true, ↓two_false, mkv, aggAt, Nat.reduceLeDiff, Nat.reduceSub, Nat.reduceMul, implies_true, Nat.reduceEqDiff, reduceIte, Nat.reduceAdd, Nat.reduceBEq, reduceCtorEq, al63, bd63, fa120_1, ld3, ld63, st3, st63, q1.rd 0 rfl, q1.rd 1 rfl, w1, w2, w3]
          refine st_set q1 1 rfl fun H2 q2 => ?_
          simp only [List.set_cons_zero, List.set_cons_succ] at q2
          simp -implicitDefEqProofs only [kz, kk0, kk1, kk2, kk3, ↓two_true, ↓two_false, mkv, aggAt, Nat.reduceLeDiff, Nat.reduceSub, Nat.reduceMul, implies_true, Nat.reduceEqDiff, reduceIte, Nat.reduceAdd, Nat.reduceBEq, reduceCtorEq, al63, bd63, fa120_1, ld3, ld63, st3, st63, q2.rd 0 rfl, q2.rd 1 rfl, w1, w2, w3]
          refine st_set q2 0 rfl fun H3 q3 => ?_
          simp only [List.set_cons_zero, List.set_cons_succ] at q3
          simp -implicitDefEqProofs only [kz, kk0, kk1, kk2, kk3, ↓two_true, ↓two_false, mkv, aggAt, Nat.reduceLeDiff, Nat.reduceSub, Nat.reduceMul, implies_true, Nat.reduceEqDiff, reduceIte, Nat.reduceAdd, Nat.reduceBEq, reduceCtorEq, al63, bd63, fa120_1, ld3, ld63, st3, st63, q3.rd 0 rfl, q3.rd 1 rfl]
          exact ⟨_, _, _, true, _, rfl, q3.tail, by omega, hx, (fun _ => by omega), (fun h => by cases h), fun _ => rfl⟩
        · refine two_intro (fun u => ?_) (fun u => ?_)
          · refine two_intro (fun u => ?_) (fun u => ?_)
            · have hd0 : d ≠ 0 := by simpa using u
              have hx : at' + 3 ≤ nt := by have := i2 hd0; omega
              try simp -implicitDefEqProofs only [kz, kk0, kk1, kk2, kk3, ↓two_true, ↓two_false, mkv, aggAt, Nat.reduceLeDiff, Nat.reduceSub, Nat.reduceMul, implies_true, Nat.reduceEqDiff, reduceIte, Nat.reduceAdd, Nat.reduceBEq, reduceCtorEq, al63, bd63, fa120_1, ld3, ld63, st3, st63, q1.rd 0 rfl, q1.rd 1 rfl, w1, w2, w3]
              refine st_set q1 1 rfl fun H2 q2 => ?_
              simp only [List.set_cons_zero, List.set_cons_succ] at q2
              simp -implicitDefEqProofs only [kz, kk0, kk1, kk2, kk3, ↓two_true, ↓two_false, mkv, aggAt, Nat.reduceLeDiff, Nat.reduceSub, Nat.reduceMul, implies_true, Nat.reduceEqDiff, reduceIte, Nat.reduceAdd, Nat.reduceBEq, reduceCtorEq, al63, bd63, fa120_1, ld3, ld63, st3, st63, q2.rd 0 rfl, q2.rd 1 rfl, w1, w2, w3]
              refine st_set q2 0 rfl fun H3 q3 => ?_
              simp only [List.set_cons_zero, List.set_cons_succ] at q3
              simp -implicitDefEqProofs only [kz, kk0, kk1, kk2, kk3, ↓two_true, ↓two_false, mkv, aggAt, Nat.reduceLeDiff, Nat.reduceSub, Nat.reduceMul, implies_true, Nat.reduceEqDiff, reduceIte, Nat.reduceAdd, Nat.reduceBEq, reduceCtorEq, al63, bd63, fa120_1, ld3, ld63, st3, st63, q3.rd 0 rfl, q3.rd 1 rfl]
              exact ⟨_, _, _, true, _, rfl, q3.tail, by omega, hx, (fun _ => by omega), (fun h => by cases h), fun _ => rfl⟩
            · have hx : at' + 1 ≤ nt := by have := i0 ha0; omega
              try simp -implicitDefEqProofs only [kz, kk0, kk1, kk2, kk3, ↓two_true, ↓two_false, mkv, aggAt, Nat.reduceLeDiff, Nat.reduceSub, Nat.reduceMul, implies_true, Nat.reduceEqDiff, reduceIte, Nat.reduceAdd, Nat.reduceBEq, reduceCtorEq, al63, bd63, fa120_1, ld3, ld63, st3, st63, q1.rd 0 rfl, q1.rd 1 rfl, w1, w2, w3]
              refine st_set q1 1 rfl fun H2 q2 => ?_
              simp only [List.set_cons_zero, List.set_cons_succ] at q2
              simp -implicitDefEqProofs only [kz, kk0, kk1, kk2, kk3, ↓two_true, ↓two_false, mkv, aggAt, Nat.reduceLeDiff, Nat.reduceSub, Nat.reduceMul, implies_true, Nat.reduceEqDiff, reduceIte, Nat.reduceAdd, Nat.reduceBEq, reduceCtorEq, al63, bd63, fa120_1, ld3, ld63, st3, st63, q2.rd 0 rfl, q2.rd 1 rfl, w1, w2, w3]
              refine st_set q2 0 rfl fun H3 q3 => ?_
              simp only [List.set_cons_zero, List.set_cons_succ] at q3
              simp -implicitDefEqProofs only [kz, kk0, kk1, kk2, kk3, ↓two_true, ↓two_false, mkv, aggAt, Nat.reduceLeDiff, Nat.reduceSub, Nat.reduceMul, implies_true, Nat.reduceEqDiff, reduceIte, Nat.reduceAdd, Nat.reduceBEq, reduceCtorEq, al63, bd63, fa120_1, ld3, ld63, st3, st63, q3.rd 0 rfl, q3.rd 1 rfl]
              exact ⟨_, _, _, true, _, rfl, q3.tail, by omega, hx, (fun _ => by omega), (fun h => by cases h), fun _ => rfl⟩
          · have hx : at' + 1 ≤ nt := by have := i0 ha0; omega
            try simp -implicitDefEqProofs only [kz, kk0, kk1, kk2, kk3, ↓two_true, ↓two_false, mkv, aggAt, Nat.reduceLeDiff, Nat.reduceSub, Nat.reduceMul, implies_true, Nat.reduceEqDiff, reduceIte, Nat.reduceAdd, Nat.reduceBEq, reduceCtorEq, al63, bd63, fa120_1, ld3, ld63, st3, st63, q1.rd 0 rfl, q1.rd 1 rfl, w1, w2, w3]
            refine st_set q1 1 rfl fun H2 q2 => ?_
            simp only [List.set_cons_zero, List.set_cons_succ] at q2
            simp -implicitDefEqProofs only [kz, kk0, kk1, kk2, kk3, ↓two_true, ↓two_false, mkv, aggAt, Nat.reduceLeDiff, Nat.reduceSub, Nat.reduceMul, implies_true, Nat.reduceEqDiff, reduceIte, Nat.reduceAdd, Nat.reduceBEq, reduceCtorEq, al63, bd63, fa120_1, ld3, ld63, st3, st63, q2.rd 0 rfl, q2.rd 1 rfl, w1, w2, w3]
            refine st_set q2 0 rfl fun H3 q3 => ?_
            simp only [List.set_cons_zero, List.set_cons_succ] at q3
            simp -implicitDefEqProofs only [kz, kk0, kk1, kk2, kk3, ↓two_true, ↓two_false, mkv, aggAt, Nat.reduceLeDiff, Nat.reduceSub, Nat.reduceMul, implies_true, Nat.reduceEqDiff, reduceIte, Nat.reduceAdd, Nat.reduceBEq, reduceCtorEq, al63, bd63, fa120_1, ld3, ld63, st3, st63, q3.rd 0 rfl, q3.rd 1 rfl]
            exact ⟨_, _, _, true, _, rfl, q3.tail, by omega, hx, (fun _ => by omega), (fun h => by cases h), fun _ => rfl⟩

theorem lit7 {B : Nat → Prop} {c0 : Option Nat} {H0 H : AH} {L : List Ix} {b : Nat} {k a b' s o w : Int} {p : Value} {l : List Int} (h : LB B c0 H0 H L) (j : Nat) (hj : L[j]? = some (.own (.box b [.int .i64 k, .int .i64 a, .int .i64 b', .int .i64 s, .int .i64 o, .int .i64 w, p]))) (hp : KOk H .r p ∧ rowI H p = l ∧ ∀ g, blkOf p = some g → B g) :
    FRow H (.slice (some ⟨b, 0, none⟩) 1 7) kExpr 1 [.int .i64 k, .int .i64 a, .int .i64 b', .int .i64 s, .int .i64 o, .int .i64 w, p] ∧ cvs H [.int .i64 k, .int .i64 a, .int .i64 b', .int .i64 s, .int .i64 o, .int .i64 w, p] = [.i k, .i a, .i b', .i s, .i o, .i w, .r l] ∧ ∀ y ∈ [.int .i64 k, .int .i64 a, .int .i64 b', .int .i64 s, .int .i64 o, .int .i64 w, p], ∀ g, blkOf y = some g → B g := by
  have hb : H[b]? = some ⟨[.int .i64 k, .int .i64 a, .int .i64 b', .int .i64 s, .int .i64 o, .int .i64 w, p], .own⟩ := h.ok j _ hj
  obtain ⟨p1, p2, p3⟩ := hp
  refine ⟨⟨rfl, .inr ⟨b, 0, _, rfl, rd_own hb, by simp [kExpr], fun j y hy => by rw [Nat.zero_add]; exact hy⟩, ?_⟩, ?_, ?_⟩
  · intro i c kk y hi hk hy
    obtain rfl : i = 0 := by omega
    match c with
    | 0 => simp [kExpr] at hk hy; subst hk; subst hy; exact ⟨_, rfl⟩
    | 1 => simp [kExpr] at hk hy; subst hk; subst hy; exact ⟨_, rfl⟩
    | 2 => simp [kExpr] at hk hy; subst hk; subst hy; exact ⟨_, rfl⟩
    | 3 => simp [kExpr] at hk hy; subst hk; subst hy; exact ⟨_, rfl⟩
    | 4 => simp [kExpr] at hk hy; subst hk; subst hy; exact ⟨_, rfl⟩
    | 5 => simp [kExpr] at hk hy; subst hk; subst hy; exact ⟨_, rfl⟩
    | 6 => simp [kExpr] at hk hy; subst hk; subst hy; exact p1
    | c + 7 => simp [kExpr] at hk
  · simp only [cvs, List.map_cons, List.map_nil, cv_int, cv_row p1.1, p2]
  · intro y hy g hg
    simp only [List.mem_cons, List.not_mem_nil, or_false] at hy
    rcases hy with rfl | rfl | rfl | rfl | rfl | rfl | rfl
    · simp [blkOf] at hg
    · simp [blkOf] at hg
    · simp [blkOf] at hg
    · simp [blkOf] at hg
    · simp [blkOf] at hg
    · simp [blkOf] at hg
    · exact p3 g hg
theorem st_app7 {c0 : Option Nat} {H0 H : AH} {L : List Ix} {Φ : Value → AH → Prop} {v : Value} {n b : Nat} {xs : List Value} {V : List CV} {k a b' s o w : Int} {p : Value} {l : List Int} (q : LX c0 H0 H L) (i j : Nat) (hi : L[i]? = some (.tab v kExpr n xs V)) (hj : L[j]? = some (.own (.box b [.int .i64 k, .int .i64 a, .int .i64 b', .int .i64 s, .int .i64 o, .int .i64 w, p])))
    (hp : ∀ B, LB B c0 H0 H L → KOk H .r p ∧ rowI H p = l ∧ ∀ g, blkOf p = some g → B g) (hl : n + 1 ≤ 1073741824)
    (hk : ∀ a2 c2 H' ys, LX c0 H0 H' (L.set i (.tab (.slice a2 (n + 1) c2) kExpr (n + 1) ys (V ++ [.i k, .i a, .i b', .i s, .i o, .i w, .r l]))) → Φ (.slice a2 (n + 1) c2) H') : oA (app 7 v (.slice (some ⟨b, 0, none⟩) 1 7) H) Φ :=
  st_appT 7 rfl q i hi (fun _ h => lit7 h j hj (hp _ h)) hl fun a2 c2 H' g => hk a2 c2 H' _ g
theorem nilRow {H : AH} {B : Nat → Prop} : KOk H .r (.slice none 0 0) ∧ rowI H (.slice none 0 0) = [] ∧ ∀ g, blkOf (.slice none 0 0) = some g → B g :=
  ⟨(OwnRow.nil.kok (by simp)).1, by have := (OwnRow.nil (H := H)).int; exact this.row, fun g hg => by simp [blkOf] at hg⟩
theorem TabOk.row7 {B : Nat → Prop} {H : AH} {v : Value} {n : Nat} {xs : List Value} (t : TabOk B H v kExpr n xs) {i : Nat} (hi : i < n) {c0 c1 c2 c3 c4 c5 p : Value} (he : elm 7 xs i = [c0, c1, c2, c3, c4, c5, p]) : KOk H .r p ∧ ∀ g, blkOf p = some g → B g := by
  have h6 : xs[i * 7 + 6]? = some p := by
    have := elm_get (s := 7) (xs := xs) (i := i) (c := 6) (by decide)
    rw [he] at this
    exact this.symm
  exact ⟨t.cell i 6 .r p hi rfl h6, fun g hg => t.base p (List.mem_of_getElem? h6) g hg⟩
theorem FRow.row7' {H : AH} {v : Value} {n : Nat} {xs : List Value} (t : FRow H v kExpr n xs) {i : Nat} (hi : i < n) {c0 c1 c2 c3 c4 c5 p : Value} (he : elm 7 xs i = [c0, c1, c2, c3, c4, c5, p]) : OkI H p := by
  have h6 : xs[i * 7 + 6]? = some p := by
    have := elm_get (s := 7) (xs := xs) (i := i) (c := 6) (by decide)
    rw [he] at this
    exact this.symm
  exact (t.ok i 6 .r p hi rfl h6).1
/-- A node that is put behind others. -/
def shN (n : Nat) (x : Nd) : Nd :=
  if x.k = 5 then ⟨x.k, IntKind.i64.wrap (x.a + n), IntKind.i64.wrap (x.b + n), x.s, x.o, x.w, x.nums⟩
  else if x.k = 4 ∨ x.k = 3 then ⟨x.k, x.a, IntKind.i64.wrap (x.b + n), x.s, x.o, x.w, x.nums⟩ else x
theorem ndL_snoc {V C : List CV} {n : Nat} (hV : V.length = n * 7) (hC : C.length = 7) : ndL (V ++ C) (n + 1) = ndL V n ++ [ndOf C] := by
  unfold ndL chunk
  rw [List.range_succ, List.map_append, List.map_append, List.map_map, List.map_map]
  congr 1
  · rw [List.map_map]
    refine List.map_congr_left fun i hi => ?_
    have hi := List.mem_range.1 hi
    simp only [Function.comp_apply]
    congr 1
    rw [List.drop_append_of_le_length (by rw [hV]; omega), List.take_append_of_le_length (by rw [List.length_drop, hV]; omega)]
  · simp only [List.map_cons, List.map_nil, Function.comp_apply]
    congr 2
    rw [← hV, List.drop_left, List.take_of_length_le (by omega)]
theorem ndL_zero {V : List CV} : ndL V 0 = [] := rfl

set_option maxHeartbeats 4000000 in
theorem l9Behind_ok {c0 : Option Nat} {H0 H : AH} {L : List Ix} {cb : Nat} {ta na la : Option Addr} {tc nt at' m nc k lc : Nat} {xs ys : List Value} {V W : List CV} (q : LX c0 H0 H (.own (.box cb [.slice ta nt tc, .int .i64 (at' : Nat), .slice na m nc]) :: .tab (.slice na m nc) kExpr m xs V :: .tab (.slice la k lc) kExpr k ys W :: L)) (hmk : m + k ≤ 600) :
    CallsA Try.prog 113 #[.pointer (some ⟨cb, 0, none⟩), .slice la k lc] H fun r H' => ∃ a c zs Z, LX c0 H0 H' (.own (.box cb [.slice ta nt tc, .int .i64 (at' : Nat), .slice a (m + k) c]) :: .tab (.slice a (m + k) c) kExpr (m + k) zs Z :: .tab (.slice la k lc) kExpr k ys W :: L) ∧ ndL Z (m + k) = ndL V m ++ (ndL W k).map (shN m) := by
  refine w113 ?_
  unfold k113
  simp -implicitDefEqProofs only [kz, kk0, kk1, kk2, kk3, ↓two_true, ↓two_false, mkv, aggAt, Nat.reduceLeDiff, Nat.reduceSub, Nat.reduceMul, implies_true, Nat.reduceEqDiff, reduceIte, Nat.reduceAdd, Nat.reduceBEq, reduceCtorEq, al77, ap37_37, bs37_1, fa77_0, fa77_1, fa77_2, fa120_2, ix37, ld3, ld37, ld77, ln37, st3, st37, st77, q.rd 0 rfl]
  refine rW_loop (σ := Nat) (fun i tm H' => ∃ a c zs Z, tm 0 = .pointer (some ⟨cb, 0, none⟩) ∧ tm 1 = .slice la k lc ∧ tm 4 = .int .i64 m ∧ tm 5 = .int .i64 i ∧ i ≤ k ∧ LX c0 H0 H' (.own (.box cb [.slice ta nt tc, .int .i64 (at' : Nat), .slice a (m + i) c]) :: .tab (.slice a (m + i) c) kExpr (m + i) zs Z :: .tab (.slice la k lc) kExpr k ys W :: L) ∧ ndL Z (m + i) = ndL V m ++ ((ndL W k).take i).map (shN m)) (fun i => k - i) 0 ?_ ?_
  · exact ⟨na, nc, xs, V, rfl, rfl, rfl, rfl, Nat.zero_le _, q, by simp⟩
  · rintro i tm H1 ⟨a, c, zs, Z, h0, h1, h4, h5, hi, q1, hZ⟩
    simp -implicitDefEqProofs only [kz, kk0, kk1, kk2, kk3, ↓two_true, ↓two_false, mkv, aggAt, Nat.reduceLeDiff, Nat.reduceSub, Nat.reduceMul, implies_true, Nat.reduceEqDiff, reduceIte, Nat.reduceAdd, Nat.reduceBEq, reduceCtorEq, al77, ap37_37, bs37_1, fa77_0, fa77_1, fa77_2, fa120_2, ix37, ld3, ld37, ld77, ln37, st3, st37, st77, h0, h1, h4, h5]
    refine two_intro (fun u => ?_) (fun u => ?_)
    · have hlt : i < k := by have := of_decide_eq_true u; omega
      obtain ⟨f1, f2⟩ := q1.tb 2 rfl
      obtain ⟨la', lc', e, gv⟩ := f1.opn 7 rfl
      simp only [Value.slice.injEq, true_and] at e
      obtain ⟨rfl, rfl⟩ := e
      obtain ⟨b, o, cs, rfl, rfl, hrd, hle, hcell⟩ := gv (by omega)
      have x1 := f1.elemn 7 rfl hlt
      have l1 : ld Try.prog 77 (o + i * 7) cs = some (.agg (elm 7 ys i).toArray) := by rw [ld77]; exact (hcell i hlt).1
      have hel : ∃ ex, ex = elm 7 ys i := ⟨_, rfl⟩
      obtain ⟨ex, hex⟩ := hel
      rw [← hex] at x1 l1
      obtain ⟨xk, xa, xb, xs', xo, xw, p, rfl, ky, -⟩ := all2_expr x1
      obtain ⟨pa, pc, ep⟩ := ky.1.slice
      generalize hpl : (rowI H1 p).length = pl at ep
      subst ep
      clear x1 ky hpl
      have g1 : (0 : Int) ≤ (i : Int) ∧ (i : Int) < (k : Int) := by omega
      have wi : IntKind.i64.wrap ((i : Int) + 1) = ((i + 1 : Nat) : Int) := IntWalk.i64_in ((i : Int) + 1) (by omega)
      simp -implicitDefEqProofs only [kz, kk0, kk1, kk2, kk3, ↓two_true, ↓two_false, mkv, aggAt, Nat.reduceLeDiff, Nat.reduceSub, Nat.reduceMul, implies_true, Nat.reduceEqDiff, reduceIte, Nat.reduceAdd, Nat.reduceBEq, reduceCtorEq, al77, ap37_37, bs37_1, fa77_0, fa77_1, fa77_2, fa120_2, ix37, ld3, ld37, ld77, ln37, st3, st37, st77, h0, h1, h4, h5, if_pos g1, Int.toNat_natCast, hrd, l1]
      have hZl : Z.length = (m + i) * 7 := by
        obtain ⟨e1, e2⟩ := q1.tb 1 rfl
        rw [← e2]
        have := e1.len
        simp only [cvs, List.length_map]
        exact this
      refine st_box q1 fun H2 q2 => ?_
      simp -implicitDefEqProofs only [kz, kk0, kk1, kk2, kk3, ↓two_true, ↓two_false, mkv, aggAt, Nat.reduceLeDiff, Nat.reduceSub, Nat.reduceMul, implies_true, Nat.reduceEqDiff, reduceIte, Nat.reduceAdd, Nat.reduceBEq, reduceCtorEq, al77, ap37_37, bs37_1, fa77_0, fa77_1, fa77_2, fa120_2, ix37, ld3, ld37, ld77, ln37, st3, st37, st77, h0, h1, h4, h5, wi, q2.rd 0 rfl]
      refine st_set q2 0 rfl fun H3 q3 => ?_
      simp only [List.set_cons_zero, List.set_cons_succ] at q3
      simp -implicitDefEqProofs only [kz, kk0, kk1, kk2, kk3, ↓two_true, ↓two_false, mkv, aggAt, Nat.reduceLeDiff, Nat.reduceSub, Nat.reduceMul, implies_true, Nat.reduceEqDiff, reduceIte, Nat.reduceAdd, Nat.reduceBEq, reduceCtorEq, al77, ap37_37, bs37_1, fa77_0, fa77_1, fa77_2, fa120_2, ix37, ld3, ld37, ld77, ln37, st3, st37, st77, h0, h1, h4, h5, wi, q3.rd 0 rfl, q3.rd 1 rfl]
      refine two_intro (fun u5 => ?_) (fun u5 => ?_)
      · have e5 : xk = 5 := by simpa using u5
        refine st_set q3 0 rfl fun H4 q4 => ?_
        simp only [List.set_cons_zero, List.set_cons_succ] at q4
        simp -implicitDefEqProofs only [kz, kk0, kk1, kk2, kk3, ↓two_true, ↓two_false, mkv, aggAt, Nat.reduceLeDiff, Nat.reduceSub, Nat.reduceMul, implies_true, Nat.reduceEqDiff, reduceIte, Nat.reduceAdd, Nat.reduceBEq, reduceCtorEq, al77, ap37_37, bs37_1, fa77_0, fa77_1, fa77_2, fa120_2, ix37, ld3, ld37, ld77, ln37, st3, st37, st77, h0, h1, h4, h5, wi, q4.rd 0 rfl, q4.rd 1 rfl]
        refine st_set q4 0 rfl fun H5 qz => ?_
        simp only [List.set_cons_zero, List.set_cons_succ] at qz
        try simp -implicitDefEqProofs only [kz, kk0, kk1, kk2, kk3, ↓two_true, ↓two_false, mkv, aggAt, Nat.reduceLeDiff, Nat.reduceSub, Nat.reduceMul, implies_true, Nat.reduceEqDiff, reduceIte, Nat.reduceAdd, Nat.reduceBEq, reduceCtorEq, al77, ap37_37, bs37_1, fa77_0, fa77_1, fa77_2, fa120_2, ix37, ld3, ld37, ld77, ln37, st3, st37, st77, h0, h1, h4, h5, wi, qz.rd 0 rfl, qz.rd 1 rfl]
        refine st_cells qz fun H9 q9 => ?_
        simp -implicitDefEqProofs only [kz, kk0, kk1, kk2, kk3, ↓two_true, ↓two_false, mkv, aggAt, Nat.reduceLeDiff, Nat.reduceSub, Nat.reduceMul, implies_true, Nat.reduceEqDiff, reduceIte, Nat.reduceAdd, Nat.reduceBEq, reduceCtorEq, al77, ap37_37, bs37_1, fa77_0, fa77_1, fa77_2, fa120_2, ix37, ld3, ld37, ld77, ln37, st3, st37, st77, h0, h1, h4, h5, wi, q9.rd 0 rfl, q9.rd 1 rfl, q9.rd 2 rfl]
        refine st_app7 (l := rowI H9 (.slice pa pl pc)) q9 3 0 rfl rfl (fun B h => ⟨(TabOk.row7 (h.ok 4 _ rfl).1 hlt hex.symm).1, rfl, (TabOk.row7 (h.ok 4 _ rfl).1 hlt hex.symm).2⟩) (by omega) fun a2 c2 H10 zs2 q10 => ?_
        simp only [List.set_cons_zero, List.set_cons_succ] at q10
        simp -implicitDefEqProofs only [kz, kk0, kk1, kk2, kk3, ↓two_true, ↓two_false, mkv, aggAt, Nat.reduceLeDiff, Nat.reduceSub, Nat.reduceMul, implies_true, Nat.reduceEqDiff, reduceIte, Nat.reduceAdd, Nat.reduceBEq, reduceCtorEq, al77, ap37_37, bs37_1, fa77_0, fa77_1, fa77_2, fa120_2, ix37, ld3, ld37, ld77, ln37, st3, st37, st77, h0, h1, h4, h5, wi, q10.rd 0 rfl, q10.rd 1 rfl, q10.rd 2 rfl]
        refine st_set q10 2 rfl fun H11 q11 => ?_
        simp only [List.set_cons_zero, List.set_cons_succ] at q11
        simp -implicitDefEqProofs only [kz, kk0, kk1, kk2, kk3, ↓two_true, ↓two_false, mkv, aggAt, Nat.reduceLeDiff, Nat.reduceSub, Nat.reduceMul, implies_true, Nat.reduceEqDiff, reduceIte, Nat.reduceAdd, Nat.reduceBEq, reduceCtorEq, al77, ap37_37, bs37_1, fa77_0, fa77_1, fa77_2, fa120_2, ix37, ld3, ld37, ld77, ln37, st3, st37, st77, h0, h1, h4, h5, wi]
        have q12 := q11.front 5 [2, 3, 4] (by decide) rfl
        simp only [List.filterMap_cons, List.filterMap_nil, List.getElem?_cons_zero, List.getElem?_cons_succ, List.drop_succ_cons, List.drop_zero, List.cons_append, List.nil_append] at q12
        refine ⟨i + 1, by omega, a2, c2, zs2, _, rfl, hlt, q12, ?_⟩
        obtain ⟨f9, g9⟩ := q9.tb 4 rfl
        have hnd := ndL_get (H := H9) (xs := ys) hlt
        rw [g9, ← hex] at hnd
        simp only [List.map_cons, List.map_nil, cv_int, cv_row (f9.row7' hlt hex.symm), ndOf] at hnd
        rw [show m + (i + 1) = m + i + 1 by omega, ndL_snoc hZl rfl, hZ, List.take_add_one, hnd, List.map_append, List.append_assoc]
        congr 2
        simp only [Option.toList_some, List.map_cons, List.map_nil, ndOf]
        unfold shN; rw [if_pos e5]
      · have e5 : xk ≠ 5 := by simpa using u5
        by_cases e4 : xk = 4
        · have b4 : (xk == 4) = true := by simpa using e4
          simp -implicitDefEqProofs only [kz, kk0, kk1, kk2, kk3, ↓two_true, ↓two_false, mkv, aggAt, Nat.reduceLeDiff, Nat.reduceSub, Nat.reduceMul, implies_true, Nat.reduceEqDiff, reduceIte, Nat.reduceAdd, Nat.reduceBEq, reduceCtorEq, al77, ap37_37, bs37_1, fa77_0, fa77_1, fa77_2, fa120_2, ix37, ld3, ld37, ld77, ln37, st3, st37, st77, h0, h1, h4, h5, wi, q3.rd 0 rfl, q3.rd 1 rfl, b4]
          refine st_set q3 0 rfl fun H5 qz => ?_
          simp only [List.set_cons_zero, List.set_cons_succ] at qz
          try simp -implicitDefEqProofs only [kz, kk0, kk1, kk2, kk3, ↓two_true, ↓two_false, mkv, aggAt, Nat.reduceLeDiff, Nat.reduceSub, Nat.reduceMul, implies_true, Nat.reduceEqDiff, reduceIte, Nat.reduceAdd, Nat.reduceBEq, reduceCtorEq, al77, ap37_37, bs37_1, fa77_0, fa77_1, fa77_2, fa120_2, ix37, ld3, ld37, ld77, ln37, st3, st37, st77, h0, h1, h4, h5, wi, qz.rd 0 rfl, qz.rd 1 rfl]
          refine st_cells qz fun H9 q9 => ?_
          simp -implicitDefEqProofs only [kz, kk0, kk1, kk2, kk3, ↓two_true, ↓two_false, mkv, aggAt, Nat.reduceLeDiff, Nat.reduceSub, Nat.reduceMul, implies_true, Nat.reduceEqDiff, reduceIte, Nat.reduceAdd, Nat.reduceBEq, reduceCtorEq, al77, ap37_37, bs37_1, fa77_0, fa77_1, fa77_2, fa120_2, ix37, ld3, ld37, ld77, ln37, st3, st37, st77, h0, h1, h4, h5, wi, q9.rd 0 rfl, q9.rd 1 rfl, q9.rd 2 rfl]
          refine st_app7 (l := rowI H9 (.slice pa pl pc)) q9 3 0 rfl rfl (fun B h => ⟨(TabOk.row7 (h.ok 4 _ rfl).1 hlt hex.symm).1, rfl, (TabOk.row7 (h.ok 4 _ rfl).1 hlt hex.symm).2⟩) (by omega) fun a2 c2 H10 zs2 q10 => ?_
          simp only [List.set_cons_zero, List.set_cons_succ] at q10
          simp -implicitDefEqProofs only [kz, kk0, kk1, kk2, kk3, ↓two_true, ↓two_false, mkv, aggAt, Nat.reduceLeDiff, Nat.reduceSub, Nat.reduceMul, implies_true, Nat.reduceEqDiff, reduceIte, Nat.reduceAdd, Nat.reduceBEq, reduceCtorEq, al77, ap37_37, bs37_1, fa77_0, fa77_1, fa77_2, fa120_2, ix37, ld3, ld37, ld77, ln37, st3, st37, st77, h0, h1, h4, h5, wi, q10.rd 0 rfl, q10.rd 1 rfl, q10.rd 2 rfl]
          refine st_set q10 2 rfl fun H11 q11 => ?_
          simp only [List.set_cons_zero, List.set_cons_succ] at q11
          simp -implicitDefEqProofs only [kz, kk0, kk1, kk2, kk3, ↓two_true, ↓two_false, mkv, aggAt, Nat.reduceLeDiff, Nat.reduceSub, Nat.reduceMul, implies_true, Nat.reduceEqDiff, reduceIte, Nat.reduceAdd, Nat.reduceBEq, reduceCtorEq, al77, ap37_37, bs37_1, fa77_0, fa77_1, fa77_2, fa120_2, ix37, ld3, ld37, ld77, ln37, st3, st37, st77, h0, h1, h4, h5, wi]
          have q12 := q11.front 5 [2, 3, 4] (by decide) rfl
          simp only [List.filterMap_cons, List.filterMap_nil, List.getElem?_cons_zero, List.getElem?_cons_succ, List.drop_succ_cons, List.drop_zero, List.cons_append, List.nil_append] at q12
          refine ⟨i + 1, by omega, a2, c2, zs2, _, rfl, hlt, q12, ?_⟩
          obtain ⟨f9, g9⟩ := q9.tb 4 rfl
          have hnd := ndL_get (H := H9) (xs := ys) hlt
          rw [g9, ← hex] at hnd
          simp only [List.map_cons, List.map_nil, cv_int, cv_row (f9.row7' hlt hex.symm), ndOf] at hnd
          rw [show m + (i + 1) = m + i + 1 by omega, ndL_snoc hZl rfl, hZ, List.take_add_one, hnd, List.map_append, List.append_assoc]
          congr 2
          simp only [Option.toList_some, List.map_cons, List.map_nil, ndOf]
          unfold shN; rw [if_neg (by simp only; omega), if_pos (by simp only; omega)]
        · have b4 : (xk == 4) = false := by simpa using e4
          by_cases e3 : xk = 3
          · have b3 : (xk == 3) = true := by simpa using e3
            simp -implicitDefEqProofs only [kz, kk0, kk1, kk2, kk3, ↓two_true, ↓two_false, mkv, aggAt, Nat.reduceLeDiff, Nat.reduceSub, Nat.reduceMul, implies_true, Nat.reduceEqDiff, reduceIte, Nat.reduceAdd, Nat.reduceBEq, reduceCtorEq, al77, ap37_37, bs37_1, fa77_0, fa77_1, fa77_2, fa120_2, ix37, ld3, ld37, ld77, ln37, st3, st37, st77, h0, h1, h4, h5, wi, q3.rd 0 rfl, q3.rd 1 rfl, b4, b3]
            refine st_set q3 0 rfl fun H5 qz => ?_
            simp only [List.set_cons_zero, List.set_cons_succ] at qz
            try simp -implicitDefEqProofs only [kz, kk0, kk1, kk2, kk3, ↓two_true, ↓two_false, mkv, aggAt, Nat.reduceLeDiff, Nat.reduceSub, Nat.reduceMul, implies_true, Nat.reduceEqDiff, reduceIte, Nat.reduceAdd, Nat.reduceBEq, reduceCtorEq, al77, ap37_37, bs37_1, fa77_0, fa77_1, fa77_2, fa120_2, ix37, ld3, ld37, ld77, ln37, st3, st37, st77, h0, h1, h4, h5, wi, qz.rd 0 rfl, qz.rd 1 rfl]
            refine st_cells qz fun H9 q9 => ?_
            simp -implicitDefEqProofs only [kz, kk0, kk1, kk2, kk3, ↓two_true, ↓two_false, mkv, aggAt, Nat.reduceLeDiff, Nat.reduceSub, Nat.reduceMul, implies_true, Nat.reduceEqDiff, reduceIte, Nat.reduceAdd, Nat.reduceBEq, reduceCtorEq, al77, ap37_37, bs37_1, fa77_0, fa77_1, fa77_2, fa120_2, ix37, ld3, ld37, ld77, ln37, st3, st37, st77, h0, h1, h4, h5, wi, q9.rd 0 rfl, q9.rd 1 rfl, q9.rd 2 rfl]
            refine st_app7 (l := rowI H9 (.slice pa pl pc)) q9 3 0 rfl rfl (fun B h => ⟨(TabOk.row7 (h.ok 4 _ rfl).1 hlt hex.symm).1, rfl, (TabOk.row7 (h.ok 4 _ rfl).1 hlt hex.symm).2⟩) (by omega) fun a2 c2 H10 zs2 q10 => ?_
            simp only [List.set_cons_zero, List.set_cons_succ] at q10
            simp -implicitDefEqProofs only [kz, kk0, kk1, kk2, kk3, ↓two_true, ↓two_false, mkv, aggAt, Nat.reduceLeDiff, Nat.reduceSub, Nat.reduceMul, implies_true, Nat.reduceEqDiff, reduceIte, Nat.reduceAdd, Nat.reduceBEq, reduceCtorEq, al77, ap37_37, bs37_1, fa77_0, fa77_1, fa77_2, fa120_2, ix37, ld3, ld37, ld77, ln37, st3, st37, st77, h0, h1, h4, h5, wi, q10.rd 0 rfl, q10.rd 1 rfl, q10.rd 2 rfl]
            refine st_set q10 2 rfl fun H11 q11 => ?_
            simp only [List.set_cons_zero, List.set_cons_succ] at q11
            simp -implicitDefEqProofs only [kz, kk0, kk1, kk2, kk3, ↓two_true, ↓two_false, mkv, aggAt, Nat.reduceLeDiff, Nat.reduceSub, Nat.reduceMul, implies_true, Nat.reduceEqDiff, reduceIte, Nat.reduceAdd, Nat.reduceBEq, reduceCtorEq, al77, ap37_37, bs37_1, fa77_0, fa77_1, fa77_2, fa120_2, ix37, ld3, ld37, ld77, ln37, st3, st37, st77, h0, h1, h4, h5, wi]
            have q12 := q11.front 5 [2, 3, 4] (by decide) rfl
            simp only [List.filterMap_cons, List.filterMap_nil, List.getElem?_cons_zero, List.getElem?_cons_succ, List.drop_succ_cons, List.drop_zero, List.cons_append, List.nil_append] at q12
            refine ⟨i + 1, by omega, a2, c2, zs2, _, rfl, hlt, q12, ?_⟩
            obtain ⟨f9, g9⟩ := q9.tb 4 rfl
            have hnd := ndL_get (H := H9) (xs := ys) hlt
            rw [g9, ← hex] at hnd
            simp only [List.map_cons, List.map_nil, cv_int, cv_row (f9.row7' hlt hex.symm), ndOf] at hnd
            rw [show m + (i + 1) = m + i + 1 by omega, ndL_snoc hZl rfl, hZ, List.take_add_one, hnd, List.map_append, List.append_assoc]
            congr 2
            simp only [Option.toList_some, List.map_cons, List.map_nil, ndOf]
            unfold shN; rw [if_neg (by simp only; omega), if_pos (by simp only; omega)]
          · have b3 : (xk == 3) = false := by simpa using e3
            simp -implicitDefEqProofs only [kz, kk0, kk1, kk2, kk3, ↓two_true, ↓two_false, mkv, aggAt, Nat.reduceLeDiff, Nat.reduceSub, Nat.reduceMul, implies_true, Nat.reduceEqDiff, reduceIte, Nat.reduceAdd, Nat.reduceBEq, reduceCtorEq, al77, ap37_37, bs37_1, fa77_0, fa77_1, fa77_2, fa120_2, ix37, ld3, ld37, ld77, ln37, st3, st37, st77, h0, h1, h4, h5, wi, q3.rd 0 rfl, q3.rd 1 rfl, b4, b3]
            have qz := q3
            try simp -implicitDefEqProofs only [kz, kk0, kk1, kk2, kk3, ↓two_true, ↓two_false, mkv, aggAt, Nat.reduceLeDiff, Nat.reduceSub, Nat.reduceMul, implies_true, Nat.reduceEqDiff, reduceIte, Nat.reduceAdd, Nat.reduceBEq, reduceCtorEq, al77, ap37_37, bs37_1, fa77_0, fa77_1, fa77_2, fa120_2, ix37, ld3, ld37, ld77, ln37, st3, st37, st77, h0, h1, h4, h5, wi, qz.rd 0 rfl, qz.rd 1 rfl]
            refine st_cells qz fun H9 q9 => ?_
            simp -implicitDefEqProofs only [kz, kk0, kk1, kk2, kk3, ↓two_true, ↓two_false, mkv, aggAt, Nat.reduceLeDiff, Nat.reduceSub, Nat.reduceMul, implies_true, Nat.reduceEqDiff, reduceIte, Nat.reduceAdd, Nat.reduceBEq, reduceCtorEq, al77, ap37_37, bs37_1, fa77_0, fa77_1, fa77_2, fa120_2, ix37, ld3, ld37, ld77, ln37, st3, st37, st77, h0, h1, h4, h5, wi, q9.rd 0 rfl, q9.rd 1 rfl, q9.rd 2 rfl]
            refine st_app7 (l := rowI H9 (.slice pa pl pc)) q9 3 0 rfl rfl (fun B h => ⟨(TabOk.row7 (h.ok 4 _ rfl).1 hlt hex.symm).1, rfl, (TabOk.row7 (h.ok 4 _ rfl).1 hlt hex.symm).2⟩) (by omega) fun a2 c2 H10 zs2 q10 => ?_
            simp only [List.set_cons_zero, List.set_cons_succ] at q10
            simp -implicitDefEqProofs only [kz, kk0, kk1, kk2, kk3, ↓two_true, ↓two_false, mkv, aggAt, Nat.reduceLeDiff, Nat.reduceSub, Nat.reduceMul, implies_true, Nat.reduceEqDiff, reduceIte, Nat.reduceAdd, Nat.reduceBEq, reduceCtorEq, al77, ap37_37, bs37_1, fa77_0, fa77_1, fa77_2, fa120_2, ix37, ld3, ld37, ld77, ln37, st3, st37, st77, h0, h1, h4, h5, wi, q10.rd 0 rfl, q10.rd 1 rfl, q10.rd 2 rfl]
            refine st_set q10 2 rfl fun H11 q11 => ?_
            simp only [List.set_cons_zero, List.set_cons_succ] at q11
            simp -implicitDefEqProofs only [kz, kk0, kk1, kk2, kk3, ↓two_true, ↓two_false, mkv, aggAt, Nat.reduceLeDiff, Nat.reduceSub, Nat.reduceMul, implies_true, Nat.reduceEqDiff, reduceIte, Nat.reduceAdd, Nat.reduceBEq, reduceCtorEq, al77, ap37_37, bs37_1, fa77_0, fa77_1, fa77_2, fa120_2, ix37, ld3, ld37, ld77, ln37, st3, st37, st77, h0, h1, h4, h5, wi]
            have q12 := q11.front 5 [2, 3, 4] (by decide) rfl
            simp only [List.filterMap_cons, List.filterMap_nil, List.getElem?_cons_zero, List.getElem?_cons_succ, List.drop_succ_cons, List.drop_zero, List.cons_append, List.nil_append] at q12
            refine ⟨i + 1, by omega, a2, c2, zs2, _, rfl, hlt, q12, ?_⟩
            obtain ⟨f9, g9⟩ := q9.tb 4 rfl
            have hnd := ndL_get (H := H9) (xs := ys) hlt
            rw [g9, ← hex] at hnd
            simp only [List.map_cons, List.map_nil, cv_int, cv_row (f9.row7' hlt hex.symm), ndOf] at hnd
            rw [show m + (i + 1) = m + i + 1 by omega, ndL_snoc hZl rfl, hZ, List.take_add_one, hnd, List.map_append, List.append_assoc]
            congr 2
            simp only [Option.toList_some, List.map_cons, List.map_nil, ndOf]
            unfold shN; rw [if_neg (by simp only; omega), if_neg (by simp only; omega)]
    · have hik : i = k := by have := of_decide_eq_false u; omega
      subst hik
      try simp -implicitDefEqProofs only [kz, kk0, kk1, kk2, kk3, ↓two_true, ↓two_false, mkv, aggAt, Nat.reduceLeDiff, Nat.reduceSub, Nat.reduceMul, implies_true, Nat.reduceEqDiff, reduceIte, Nat.reduceAdd, Nat.reduceBEq, reduceCtorEq, al77, ap37_37, bs37_1, fa77_0, fa77_1, fa77_2, fa120_2, ix37, ld3, ld37, ld77, ln37, st3, st37, st77, h0, h1, h4, h5]
      rw [List.take_of_length_le (by rw [ndL_len]; exact Nat.le_refl _)] at hZ
      exact ⟨a, c, zs, Z, q1, hZ⟩

structure PT (l : List Nd) : Prop where
  ok : l.all ndOk = true
  own : ∃ w, ownG [] l = some w ∧ OwB w ∧ w.length = l.length ∧ gI w ((l.length : Int) - 1) = l.length
  pos : 0 < l.length
theorem ownG_app {l1 l2 : List Nd} : ∀ {acc w : List Int}, ownG acc l1 = some w → ownG acc (l1 ++ l2) = ownG w l2 := by
  induction l1 with
  | nil => intro acc w h; simp only [ownG, Option.some.injEq] at h; subst h; rfl
  | cons x t ih =>
    intro acc w h
    rw [List.cons_append, ownG]
    rw [ownG] at h
    cases hn : nxt acc x with
    | none => rw [hn] at h; cases h
    | some k => rw [hn] at h; exact ih h
theorem gI_app {acc own : List Int} {j : Int} (h : 0 ≤ j ∧ j < own.length) : gI (acc ++ own) ((acc.length : Int) + j) = gI own j := by
  unfold gI
  rw [List.getD_eq_getElem?_getD, List.getD_eq_getElem?_getD, List.getElem?_append_right (by omega)]
  congr 2
  omega
theorem gI_left {acc own : List Int} {j : Int} (h : 0 ≤ j ∧ j < acc.length) : gI (acc ++ own) j = gI acc j := by
  unfold gI
  rw [List.getD_eq_getElem?_getD, List.getD_eq_getElem?_getD, List.getElem?_append_left (by omega)]
theorem nd_kind {x : Nd} (h : ndOk x = true) : x.k = 1 ∨ x.k = 2 ∨ x.k = 3 ∨ x.k = 4 ∨ x.k = 5 := by
  unfold ndOk at h
  simp only [Bool.or_eq_true, Bool.and_eq_true, beq_iff_eq] at h
  omega
theorem ndOk_sh {x : Nd} {n : Nat} (h : ndOk x = true) : ndOk (shN n x) = true := by
  rcases nd_kind h with hk | hk | hk | hk | hk
  · unfold shN; rw [if_neg (by omega), if_neg (by omega)]; exact h
  · unfold shN; rw [if_neg (by omega), if_neg (by omega)]; exact h
  · unfold shN; rw [if_neg (by omega), if_pos (by omega)]
    simp only [ndOk, hk] at h ⊢
    simpa using h
  · unfold shN; rw [if_neg (by omega), if_pos (by omega)]
    simp only [ndOk, hk] at h ⊢
    simpa using h
  · unfold shN; rw [if_pos hk]
    simp only [ndOk, hk] at h ⊢
    simpa using h
theorem nxt_sh {acc own : List Int} {x : Nd} {k : Int} (ho : OwB own) (hk : ndOk x = true) (h1 : acc.length ≤ 1000) (h2 : own.length ≤ 1000) (h : nxt own x = some k) : nxt (acc ++ own) (shN acc.length x) = some k := by
  rcases nd_kind hk with hx | hx | hx | hx | hx
  · have e : shN acc.length x = x := by unfold shN; rw [if_neg (by omega), if_neg (by omega)]
    rw [e]
    unfold nxt at h ⊢
    rw [if_pos (by omega)] at h ⊢
    exact h
  · have e : shN acc.length x = x := by unfold shN; rw [if_neg (by omega), if_neg (by omega)]
    rw [e]
    unfold nxt at h ⊢
    rw [if_pos (by omega)] at h ⊢
    exact h
  · have e : shN acc.length x = ⟨x.k, x.a, IntKind.i64.wrap (x.b + acc.length), x.s, x.o, x.w, x.nums⟩ := by unfold shN; rw [if_neg (by omega), if_pos (by omega)]
    rw [e]
    unfold nxt at h ⊢
    dsimp only
    rw [if_neg (by omega)] at h ⊢
    split at h
    · cases h
    · rename_i hc
      rw [if_pos (by omega)] at h
      have hb : x.b = (own.length : Int) - 1 := by omega
      have w1 : IntKind.i64.wrap (x.b + acc.length) = ((acc ++ own).length : Int) - 1 := by
        rw [IntWalk.i64_in _ (by omega), List.length_append]; omega
      rw [w1, if_neg (by simp only [List.length_append]; omega), if_pos (by omega)]
      rw [show (((acc ++ own).length : Nat) : Int) - 1 = (acc.length : Int) + ((own.length : Int) - 1) by rw [List.length_append]; omega, gI_app (by omega)]
      exact h
  · have e : shN acc.length x = ⟨x.k, x.a, IntKind.i64.wrap (x.b + acc.length), x.s, x.o, x.w, x.nums⟩ := by unfold shN; rw [if_neg (by omega), if_pos (by omega)]
    rw [e]
    unfold nxt at h ⊢
    dsimp only
    rw [if_neg (by omega)] at h ⊢
    split at h
    · cases h
    · rename_i hc
      rw [if_pos (by omega)] at h
      have hb : x.b = (own.length : Int) - 1 := by omega
      have w1 : IntKind.i64.wrap (x.b + acc.length) = ((acc ++ own).length : Int) - 1 := by
        rw [IntWalk.i64_in _ (by omega), List.length_append]; omega
      rw [w1, if_neg (by simp only [List.length_append]; omega), if_pos (by omega)]
      rw [show (((acc ++ own).length : Nat) : Int) - 1 = (acc.length : Int) + ((own.length : Int) - 1) by rw [List.length_append]; omega, gI_app (by omega)]
      exact h
  · have e : shN acc.length x = ⟨x.k, IntKind.i64.wrap (x.a + acc.length), IntKind.i64.wrap (x.b + acc.length), x.s, x.o, x.w, x.nums⟩ := by unfold shN; rw [if_pos hx]
    rw [e]
    unfold nxt at h ⊢
    dsimp only
    rw [if_neg (by omega)] at h ⊢
    split at h
    · cases h
    · rename_i hc
      rw [if_neg (by omega)] at h
      have hl : 0 < own.length := by omega
      have ha : x.a = (own.length : Int) - 1 := by omega
      have g1 := ho.g (i := own.length - 1) (by omega)
      have e1 : (own.length : Int) - 1 = ((own.length - 1 : Nat) : Int) := by omega
      rw [← e1] at g1
      split at h
      · cases h
      · rename_i hd
        have eA : (((acc ++ own).length : Nat) : Int) - 1 = (acc.length : Int) + ((own.length : Int) - 1) := by rw [List.length_append]; omega
        have gA : gI (acc ++ own) ((acc.length : Int) + ((own.length : Int) - 1)) = gI own ((own.length : Int) - 1) := gI_app (by omega)
        generalize hg : gI own ((own.length : Int) - 1) = g at *
        have hb : x.b = (own.length : Int) - 1 - g := by omega
        have wa : IntKind.i64.wrap (x.a + acc.length) = (acc.length : Int) + ((own.length : Int) - 1) := by rw [IntWalk.i64_in _ (by omega)]; omega
        have wb : IntKind.i64.wrap (x.b + acc.length) = (acc.length : Int) + ((own.length : Int) - 1 - g) := by rw [IntWalk.i64_in _ (by omega)]; omega
        simp only [eA, gA, wa, wb]
        rw [if_neg (by simp only [List.length_append]; omega), if_neg (by omega), if_neg (by omega)]
        rw [show (acc.length : Int) + ((own.length : Int) - 1) - g = (acc.length : Int) + ((own.length : Int) - 1 - g) by omega, gI_app (by omega)]
        exact h
theorem ownG_sh {acc : List Int} (h1 : acc.length ≤ 1000) : ∀ {l : List Nd} {own w : List Int}, OwB own → l.all ndOk = true → own.length + l.length ≤ 1000 → ownG own l = some w → ownG (acc ++ own) (l.map (shN acc.length)) = some (acc ++ w)
  | [], own, w, _, _, _, h => by
    simp only [ownG, Option.some.injEq] at h
    subst h; rfl
  | x :: t, own, w, ho, ha, hl, h => by
    simp only [List.all_cons, Bool.and_eq_true] at ha
    simp only [List.length_cons] at hl
    rw [ownG] at h
    rw [List.map_cons, ownG]
    cases hn : nxt own x with
    | none => rw [hn] at h; cases h
    | some k =>
      rw [hn] at h
      rw [nxt_sh ho ha.1 h1 (by omega) hn]
      simp only at h ⊢
      rw [List.append_assoc]
      exact ownG_sh h1 (ho.nxt hn) ha.2 (by simp; omega) h
theorem gI_snoc {w : List Int} {k : Int} {n : Nat} (h : w.length = n) : gI (w ++ [k]) (((n + 1 : Nat) : Int) - 1) = k := by
  have := gI_app (acc := w) (own := [k]) (j := 0) (by simp)
  rw [show ((n + 1 : Nat) : Int) - 1 = (w.length : Int) + 0 by omega, this]
  rfl
theorem PT.leaf {x : Nd} (h : ndOk x = true) (hk : x.k < 3) : PT [x] := by
  refine ⟨by simp [h], ⟨[1], ?_, ?_, rfl, rfl⟩, by simp⟩
  · have : nxt [] x = some 1 := by unfold nxt; rw [if_pos hk]
    simp only [ownG, this, List.nil_append]
  · exact OwB.nil.snoc (by omega) (by simp)
theorem PT.un {l : List Nd} {x : Nd} (t : PT l) (h : ndOk x = true) (hk : x.k = 3 ∨ x.k = 4) (hb : x.b = (l.length : Int) - 1) : PT (l ++ [x]) := by
  obtain ⟨a1, ⟨w, e1, e2, e3, e4⟩, a3⟩ := t
  have hn : nxt w x = some (1 + (l.length : Int)) := by
    unfold nxt
    rw [if_neg (by omega), if_neg (by omega), if_pos (by omega), e3, e4]
  refine ⟨by simp [a1, h], ⟨w ++ [1 + (l.length : Int)], ?_, e2.nxt hn, by simp [e3], ?_⟩, by simp⟩
  · rw [ownG_app e1, ownG, hn]; rfl
  · rw [List.length_append]
    have := gI_snoc (w := w) (k := 1 + (l.length : Int)) e3
    simp only [List.length_cons, List.length_nil]
    rw [this]
    omega
theorem PT.bin {r l : List Nd} {x : Nd} (tr : PT r) (tl : PT l) (h : ndOk x = true) (hk : x.k = 5) (ha : x.a = (r.length : Int) + l.length - 1) (hb : x.b = (r.length : Int) - 1) (hn : r.length ≤ 500) (hm : l.length ≤ 500) : PT (r ++ l.map (shN r.length) ++ [x]) := by
  obtain ⟨a1, ⟨w, e1, e2, e3, e4⟩, a3⟩ := tr
  obtain ⟨b1, ⟨v, f1, f2, f3, f4⟩, b3⟩ := tl
  have hs := ownG_sh (acc := w) (by omega) (own := []) OwB.nil b1 (by simp; omega) f1
  rw [List.append_nil, e3] at hs
  have hw : OwB (w ++ v) := by
    intro j y hy
    rcases Nat.lt_or_ge j w.length with hj | hj
    · rw [List.getElem?_append_left hj] at hy; exact e2 j y hy
    · rw [List.getElem?_append_right hj] at hy
      have := f2 _ y hy
      omega
  have g1 : gI (w ++ v) (((w ++ v).length : Int) - 1) = l.length := by
    have := gI_app (acc := w) (own := v) (j := (v.length : Int) - 1) (by omega)
    rw [show ((w ++ v).length : Int) - 1 = (w.length : Int) + ((v.length : Int) - 1) by rw [List.length_append]; omega, this, f3, f4]
  have g2 : gI (w ++ v) ((r.length : Int) - 1) = r.length := by
    rw [gI_left (by omega), e4]
  have hlen : ((w ++ v).length : Int) = (r.length : Int) + l.length := by rw [List.length_append]; omega
  have hN : nxt (w ++ v) x = some (1 + (l.length : Int) + r.length) := by
    unfold nxt
    rw [if_neg (by omega), if_neg (by omega), if_neg (by omega), g1]
    have e5 : ((w ++ v).length : Int) - 1 - (l.length : Int) = (r.length : Int) - 1 := by omega
    rw [e5, if_neg (by omega), g2]
  refine ⟨?_, ⟨w ++ v ++ [1 + (l.length : Int) + r.length], ?_, hw.nxt hN, by simp [e3, f3]; try omega, ?_⟩, by simp; omega⟩
  · rw [List.all_append, List.all_append, a1, List.all_map]
    simp only [Bool.true_and, List.all_cons, List.all_nil, Bool.and_true, h]
    rw [List.all_eq_true] at b1 ⊢
    intro y hy
    exact ndOk_sh (b1 y hy)
  · rw [List.append_assoc, ownG_app e1, ownG_app hs, ownG, hN]; rfl
  · have hl2 : (r ++ l.map (shN r.length) ++ [x]).length = r.length + l.length + 1 := by simp; omega
    rw [hl2, gI_snoc (by rw [List.length_append]; omega)]
    omega
theorem PT.tr {l : List Nd} (h : PT l) (hl : l.length ≤ 60) : trOk l = true := by
  obtain ⟨a1, ⟨w, e1, e2, e3, e4⟩, a3⟩ := h
  unfold trOk
  rw [a1, e1]
  simp only [e4, beq_self_eq_true, Bool.and_true, Bool.and_self]
  simp [inB]; omega

/-- What l9Line and l9Operand leave. -/
def LineR (c0 : Option Nat) (H0 : AH) (L : List Ix) (cb : Nat) (ta : Option Addr) (tc nt at' : Nat) (ts : List Value) (toks : List (Int × Int)) (r : Value) (H' : AH) : Prop :=
  ∃ (ok : Bool) (a2 : Nat) (na : Option Addr) (nc m : Nat) (xs : List Value) (V : List CV), r = .bool ok ∧ LX c0 H0 H' (.own (.box cb [.slice ta nt tc, .int .i64 (a2 : Nat), .slice na m nc]) :: .tab (.slice na m nc) kExpr m xs V :: .ftab (.slice ta nt tc) kToken nt ts (tokV toks) :: L) ∧ at' ≤ a2 ∧ a2 ≤ nt ∧ (ok = true → m ≤ a2 - at' ∧ at' < a2 ∧ PT (ndL V m))
def LineC (P : Program) (f N : Nat) : Prop := ∀ {c0 : Option Nat} {H0 H : AH} {L : List Ix} {cb : Nat} {ta : Option Addr} {tc nt at' : Nat} {ts : List Value} {toks : List (Int × Int)}, LX c0 H0 H (.own (.box cb [.slice ta nt tc, .int .i64 (at' : Nat), .slice none 0 0]) :: .ftab (.slice ta nt tc) kToken nt ts (tokV toks) :: L) → toks.length = nt → nt ≤ 300 → at' ≤ nt → nt - at' < N → (toks.all fun t => tokOk t.1 t.2) = true →
  CallsA P f #[.pointer (some ⟨cb, 0, none⟩)] H (LineR c0 H0 L cb ta tc nt at' ts toks)
theorem froRow {B : Nat → Prop} {H : AH} {p : Value} {l : List Int} (h : (Ix.fro p l).ok B H) (hl : l.length < 1073741825) : KOk H .r p ∧ rowI H p = l ∧ ∀ g, blkOf p = some g → B g :=
  ⟨⟨h.1.ok, by rw [h.1.row]; exact hl⟩, h.1.row, h.2⟩
theorem ndL_one {C : List CV} (hC : C.length = 7) : ndL C 1 = [ndOf C] := by
  have h := ndL_snoc (V := []) (n := 0) (C := C) rfl hC
  rw [List.nil_append] at h
  exact h

theorem tok_at2 {H : AH} {b o nt : Nat} {ts : List Value} {toks : List (Int × Int)} (f : FRow H (.slice (some ⟨b, o, none⟩) nt 2) kToken nt ts ∧ cvs H ts = tokV toks) (hl : toks.length = nt) {i : Nat} (hi : i < nt) :
    ∃ cs, rd H b = some cs ∧ cs[o + i * 2]? = some (.int .i64 (tkK toks i)) ∧ cs[o + i * 2 + 1]? = some (.int .i64 (tkV toks i)) := by
  obtain ⟨b', o', cs, e, -, h1, h2, h3⟩ := tok_at f.1 f.2 hl hi
  simp only [Option.some.injEq, Addr.mk.injEq] at e
  obtain ⟨rfl, rfl, -⟩ := e
  exact ⟨cs, h1, h2, h3⟩

set_option maxHeartbeats 4000000 in
theorem l9Operand_step {N : Nat} (ih : LineC Try.prog 107 N) : LineC Try.prog 112 (N + 1) := by
  intro cc H0 H L cb ta tc nt at' ts toks q hl h3 h4 hN hT
  have t0 := q.tc 0 1 rfl rfl rfl hl h3 h4
  have k0 : ∀ Φ, CallsA Try.prog 110 #[.pointer (some ⟨cb, 0, none⟩), .int .i64 0] H Φ = Φ (.int .i64 (tkK toks at')) H := fun Φ => l9Kind_eq (k := 0) t0 (by decide)
  refine w112 ?_
  unfold k112
  simp -implicitDefEqProofs only [kz, kk0, kk1, kk2, kk3, ↓two_true, ↓two_false, mkv, aggAt, Nat.reduceLeDiff, Nat.reduceSub, Nat.reduceMul, implies_true, Nat.reduceEqDiff, reduceIte, Nat.reduceAdd, Nat.reduceBEq, reduceCtorEq, al77, ap37_37, ap64_64, bd77, bs37_1, bs64_1, fa54_1, fa77_4, fa120_0, fa120_1, fa120_2, ix25, ld3, ld25, ld37, ld64, ld77, st3, st37, st64, st77, k0]
  have q0 := (q.ntab kExpr).front 3 [1, 0, 2] (by decide) rfl
  simp only [List.filterMap_cons, List.filterMap_nil, List.getElem?_cons_zero, List.getElem?_cons_succ, List.drop_succ_cons, List.drop_zero, List.cons_append, List.nil_append] at q0
  refine two_intro (fun u1 => ?_) (fun u1 => two_intro (fun u2 => ?_) (fun u2 => two_intro (fun u4 => ?_) (fun u4 => ?_)))
  · have e1 : tkK toks at' = 1 := by simpa using u1
    refine st_box q0 fun H1 q1 => ?_
    simp -implicitDefEqProofs only [kz, kk0, kk1, kk2, kk3, ↓two_true, ↓two_false, mkv, aggAt, Nat.reduceLeDiff, Nat.reduceSub, Nat.reduceMul, implies_true, Nat.reduceEqDiff, reduceIte, Nat.reduceAdd, Nat.reduceBEq, reduceCtorEq, al77, ap37_37, ap64_64, bd77, bs37_1, bs64_1, fa54_1, fa77_4, fa120_0, fa120_1, fa120_2, ix25, ld3, ld25, ld37, ld64, ld77, st3, st37, st64, st77, q1.rd 0 rfl]
    refine st_set q1 0 rfl fun H2 q2 => ?_
    simp only [List.set_cons_zero, List.set_cons_succ] at q2
    simp -implicitDefEqProofs only [kz, kk0, kk1, kk2, kk3, ↓two_true, ↓two_false, mkv, aggAt, Nat.reduceLeDiff, Nat.reduceSub, Nat.reduceMul, implies_true, Nat.reduceEqDiff, reduceIte, Nat.reduceAdd, Nat.reduceBEq, reduceCtorEq, al77, ap37_37, ap64_64, bd77, bs37_1, bs64_1, fa54_1, fa77_4, fa120_0, fa120_1, fa120_2, ix25, ld3, ld25, ld37, ld64, ld77, st3, st37, st64, st77, q2.rd 0 rfl]
    have q3 := q2.nil0
    refine rW_loop (σ := Nat) (fun j tm H' => ∃ pa pc nums, tm 0 = .pointer (some ⟨cb, 0, none⟩) ∧ tm 3 = .pointer (some ⟨H.length, 0, none⟩) ∧ LX cc H0 H' (.own (.row (.slice pa nums.length pc) nums) :: .own (.box H.length [.int .i64 1, .int .i64 0, .int .i64 0, .int .i64 0, .int .i64 0, .int .i64 0, .slice pa nums.length pc]) :: .own (.box cb [.slice ta nt tc, .int .i64 ((at' + j : Nat) : Int), .slice none 0 0]) :: .tab (.slice none 0 0) kExpr 0 [] [] :: .ftab (.slice ta nt tc) kToken nt ts (tokV toks) :: L) ∧ nums.length = j ∧ at' + j ≤ nt ∧ nums.all numOk = true) (fun j => nt - at' - j) 0 ?_ ?_
    · exact ⟨none, 0, [], rfl, rfl, q3, rfl, h4, rfl⟩
    · rintro j tm H4 ⟨pa, pc, nums, m0, m3, q4, hj, hjn, hno⟩
      have t4 := q4.tc 2 4 rfl rfl rfl hl h3 hjn
      have k4 : ∀ Φ, CallsA Try.prog 110 #[.pointer (some ⟨cb, 0, none⟩), .int .i64 0] H4 Φ = Φ (.int .i64 (tkK toks (at' + j))) H4 := fun Φ => l9Kind_eq (k := 0) t4 (by decide)
      simp -implicitDefEqProofs only [kz, kk0, kk1, kk2, kk3, ↓two_true, ↓two_false, mkv, aggAt, Nat.reduceLeDiff, Nat.reduceSub, Nat.reduceMul, implies_true, Nat.reduceEqDiff, reduceIte, Nat.reduceAdd, Nat.reduceBEq, reduceCtorEq, al77, ap37_37, ap64_64, bd77, bs37_1, bs64_1, fa54_1, fa77_4, fa120_0, fa120_1, fa120_2, ix25, ld3, ld25, ld37, ld64, ld77, st3, st37, st64, st77, k4, m0, m3]
      refine two_intro (fun v => ?_) (fun v => ?_)
      · have f1 : tkK toks (at' + j) = 1 := by simpa using v
        have hin : at' + j < nt := by have := tkK_in (l := toks) (i := at' + j) (by omega); omega
        have hv := tok_all hT (i := at' + j) (by omega)
        have hnv : numOk (tkV toks (at' + j)) = true := by
          rw [f1] at hv
          simpa [tokOk] using hv
        obtain ⟨f, g⟩ := q4.ft 4 rfl
        obtain ⟨b, o, cs, rfl, rfl, hrd, c0, c1⟩ := tok_at f g hl hin
        have g1 : (0 : Int) ≤ ((at' + j : Nat) : Int) ∧ ((at' + j : Nat) : Int) < (nt : Int) := by omega
        have w1 : IntKind.i64.wrap (((at' + j : Nat) : Int) + 1) = ((at' + (j + 1) : Nat) : Int) := by rw [IntWalk.i64_in _ (by omega)]; omega
        simp -implicitDefEqProofs only [kz, kk0, kk1, kk2, kk3, ↓two_true, ↓two_false, mkv, aggAt, Nat.reduceLeDiff, Nat.reduceSub, Nat.reduceMul, implies_true, Nat.reduceEqDiff, reduceIte, Nat.reduceAdd, Nat.reduceBEq, reduceCtorEq, al77, ap37_37, ap64_64, bd77, bs37_1, bs64_1, fa54_1, fa77_4, fa120_0, fa120_1, fa120_2, ix25, ld3, ld25, ld37, ld64, ld77, st3, st37, st64, st77, m0, m3, q4.rd 1 rfl, q4.rd 2 rfl, if_pos g1, Int.toNat_natCast, hrd, c1, w1]
        refine st_lit [tkV toks (at' + j)] rfl rfl q4 fun H5 q5 => ?_
        obtain ⟨cs5, hrd5, -, d5⟩ := tok_at2 (q5.ft 5 rfl) hl hin
        simp -implicitDefEqProofs only [kz, kk0, kk1, kk2, kk3, ↓two_true, ↓two_false, mkv, aggAt, Nat.reduceLeDiff, Nat.reduceSub, Nat.reduceMul, implies_true, Nat.reduceEqDiff, reduceIte, Nat.reduceAdd, Nat.reduceBEq, reduceCtorEq, al77, ap37_37, ap64_64, bd77, bs37_1, bs64_1, fa54_1, fa77_4, fa120_0, fa120_1, fa120_2, ix25, ld3, ld25, ld37, ld64, ld77, st3, st37, st64, st77, m0, m3, q5.rd 2 rfl, q5.rd 3 rfl, w1]
        refine st_app q5 1 rfl (q5.int 0 rfl) (by simp; omega) fun a2 c2 H6 q6 => ?_
        simp only [List.set_cons_zero, List.set_cons_succ] at q6
        simp only [List.length_cons, List.length_nil, Nat.zero_add] at q6 ⊢
        obtain ⟨cs6, hrd6, -, d6⟩ := tok_at2 (q6.ft 5 rfl) hl hin
        simp -implicitDefEqProofs only [kz, kk0, kk1, kk2, kk3, ↓two_true, ↓two_false, mkv, aggAt, Nat.reduceLeDiff, Nat.reduceSub, Nat.reduceMul, implies_true, Nat.reduceEqDiff, reduceIte, Nat.reduceAdd, Nat.reduceBEq, reduceCtorEq, al77, ap37_37, ap64_64, bd77, bs37_1, bs64_1, fa54_1, fa77_4, fa120_0, fa120_1, fa120_2, ix25, ld3, ld25, ld37, ld64, ld77, st3, st37, st64, st77, m0, m3, q6.rd 2 rfl, q6.rd 3 rfl, if_pos g1, Int.toNat_natCast, hrd6, d6, w1]
        refine st_set q6 2 rfl fun H7 q7 => ?_
        simp only [List.set_cons_zero, List.set_cons_succ] at q7
        simp -implicitDefEqProofs only [kz, kk0, kk1, kk2, kk3, ↓two_true, ↓two_false, mkv, aggAt, Nat.reduceLeDiff, Nat.reduceSub, Nat.reduceMul, implies_true, Nat.reduceEqDiff, reduceIte, Nat.reduceAdd, Nat.reduceBEq, reduceCtorEq, al77, ap37_37, ap64_64, bd77, bs37_1, bs64_1, fa54_1, fa77_4, fa120_0, fa120_1, fa120_2, ix25, ld3, ld25, ld37, ld64, ld77, st3, st37, st64, st77, m0, m3, q7.rd 2 rfl, q7.rd 3 rfl, w1]
        refine st_set q7 3 rfl fun H8 q8 => ?_
        simp only [List.set_cons_zero, List.set_cons_succ] at q8
        simp -implicitDefEqProofs only [kz, kk0, kk1, kk2, kk3, ↓two_true, ↓two_false, mkv, aggAt, Nat.reduceLeDiff, Nat.reduceSub, Nat.reduceMul, implies_true, Nat.reduceEqDiff, reduceIte, Nat.reduceAdd, Nat.reduceBEq, reduceCtorEq, al77, ap37_37, ap64_64, bd77, bs37_1, bs64_1, fa54_1, fa77_4, fa120_0, fa120_1, fa120_2, ix25, ld3, ld25, ld37, ld64, ld77, st3, st37, st64, st77, m0, m3, w1]
        have q9 := q8.front 6 [1, 2, 3, 4, 5] (by decide) rfl
        simp only [List.filterMap_cons, List.filterMap_nil, List.getElem?_cons_zero, List.getElem?_cons_succ, List.drop_succ_cons, List.drop_zero, List.cons_append, List.nil_append] at q9
        have hlen1 : (nums ++ [tkV toks (at' + j)]).length = nums.length + 1 := by simp
        refine ⟨j + 1, by omega, a2, c2, nums ++ [tkV toks (at' + j)], by rw [hlen1]; exact q9, by rw [hlen1]; omega, by omega, by rw [List.all_append, hno]; simp [hnv]⟩
      · have f1 : tkK toks (at' + j) ≠ 1 := by simpa using v
        have hj0 : j ≠ 0 := by rintro rfl; exact f1 e1
        try simp -implicitDefEqProofs only [kz, kk0, kk1, kk2, kk3, ↓two_true, ↓two_false, mkv, aggAt, Nat.reduceLeDiff, Nat.reduceSub, Nat.reduceMul, implies_true, Nat.reduceEqDiff, reduceIte, Nat.reduceAdd, Nat.reduceBEq, reduceCtorEq, al77, ap37_37, ap64_64, bd77, bs37_1, bs64_1, fa54_1, fa77_4, fa120_0, fa120_1, fa120_2, ix25, ld3, ld25, ld37, ld64, ld77, st3, st37, st64, st77, m0, m3]
        have q5 := q4.fzr 0 rfl
        simp only [List.set_cons_zero, List.set_cons_succ] at q5
        simp -implicitDefEqProofs only [kz, kk0, kk1, kk2, kk3, ↓two_true, ↓two_false, mkv, aggAt, Nat.reduceLeDiff, Nat.reduceSub, Nat.reduceMul, implies_true, Nat.reduceEqDiff, reduceIte, Nat.reduceAdd, Nat.reduceBEq, reduceCtorEq, al77, ap37_37, ap64_64, bd77, bs37_1, bs64_1, fa54_1, fa77_4, fa120_0, fa120_1, fa120_2, ix25, ld3, ld25, ld37, ld64, ld77, st3, st37, st64, st77, m0, m3, q5.rd 1 rfl, q5.rd 2 rfl]
        refine st_cells q5 fun H6 q6 => ?_
        simp -implicitDefEqProofs only [kz, kk0, kk1, kk2, kk3, ↓two_true, ↓two_false, mkv, aggAt, Nat.reduceLeDiff, Nat.reduceSub, Nat.reduceMul, implies_true, Nat.reduceEqDiff, reduceIte, Nat.reduceAdd, Nat.reduceBEq, reduceCtorEq, al77, ap37_37, ap64_64, bd77, bs37_1, bs64_1, fa54_1, fa77_4, fa120_0, fa120_1, fa120_2, ix25, ld3, ld25, ld37, ld64, ld77, st3, st37, st64, st77, m0, m3, q6.rd 0 rfl, q6.rd 2 rfl, q6.rd 3 rfl]
        refine st_app7 q6 4 0 rfl rfl (fun B h => froRow (h.ok 1 _ rfl) (by omega)) (by decide) fun a2 c2 H7 ys q7 => ?_
        simp only [List.set_cons_zero, List.set_cons_succ] at q7
        simp -implicitDefEqProofs only [kz, kk0, kk1, kk2, kk3, ↓two_true, ↓two_false, mkv, aggAt, Nat.reduceLeDiff, Nat.reduceSub, Nat.reduceMul, implies_true, Nat.reduceEqDiff, reduceIte, Nat.reduceAdd, Nat.reduceBEq, reduceCtorEq, al77, ap37_37, ap64_64, bd77, bs37_1, bs64_1, fa54_1, fa77_4, fa120_0, fa120_1, fa120_2, ix25, ld3, ld25, ld37, ld64, ld77, st3, st37, st64, st77, m0, m3, q7.rd 2 rfl, q7.rd 3 rfl]
        refine st_set q7 3 rfl fun H8 q8 => ?_
        simp only [List.set_cons_zero, List.set_cons_succ] at q8
        simp -implicitDefEqProofs only [kz, kk0, kk1, kk2, kk3, ↓two_true, ↓two_false, mkv, aggAt, Nat.reduceLeDiff, Nat.reduceSub, Nat.reduceMul, implies_true, Nat.reduceEqDiff, reduceIte, Nat.reduceAdd, Nat.reduceBEq, reduceCtorEq, al77, ap37_37, ap64_64, bd77, bs37_1, bs64_1, fa54_1, fa77_4, fa120_0, fa120_1, fa120_2, ix25, ld3, ld25, ld37, ld64, ld77, st3, st37, st64, st77, m0, m3, q8.rd 3 rfl]
        have q9 := q8.front 6 [3, 4, 5] (by decide) rfl
        simp only [List.filterMap_cons, List.filterMap_nil, List.getElem?_cons_zero, List.getElem?_cons_succ, List.drop_succ_cons, List.drop_zero, List.cons_append, List.nil_append] at q9
        refine ⟨true, at' + j, a2, c2, 1, ys, _, rfl, q9, by omega, hjn, fun _ => ⟨by omega, by omega, ?_⟩⟩
        rw [ndL_one rfl]
        refine PT.leaf ?_ (show (1 : Int) < 3 by decide)
        have : numsOk nums = true := by
          unfold numsOk
          rw [hno, Bool.and_true]
          simp [inB]; omega
        simp [ndOf, ndOk, this]
  · have e2 : tkK toks at' = 2 := by simpa using u2
    have hin : at' < nt := by have := tkK_in (l := toks) (i := at') (by omega); omega
    have hv := tok_all hT (i := at') (by omega)
    have hnv : inB (tkV toks at') 0 25 = true := by
      rw [e2] at hv
      simpa [tokOk] using hv
    obtain ⟨f, g⟩ := q0.ft 2 rfl
    obtain ⟨b, o, cs, rfl, rfl, hrd, c0, c1⟩ := tok_at f g hl hin
    have g1 : (0 : Int) ≤ (at' : Int) ∧ (at' : Int) < (nt : Int) := by omega
    have w1 : IntKind.i64.wrap ((at' : Int) + 1) = ((at' + 1 : Nat) : Int) := by rw [IntWalk.i64_in _ (by omega)]; omega
    simp -implicitDefEqProofs only [kz, kk0, kk1, kk2, kk3, ↓two_true, ↓two_false, mkv, aggAt, Nat.reduceLeDiff, Nat.reduceSub, Nat.reduceMul, implies_true, Nat.reduceEqDiff, reduceIte, Nat.reduceAdd, Nat.reduceBEq, reduceCtorEq, al77, ap37_37, ap64_64, bd77, bs37_1, bs64_1, fa54_1, fa77_4, fa120_0, fa120_1, fa120_2, ix25, ld3, ld25, ld37, ld64, ld77, st3, st37, st64, st77, q0.rd 0 rfl, if_pos g1, Int.toNat_natCast, hrd, c1, w1]
    refine st_cells q0 fun H6 q6 => ?_
    simp -implicitDefEqProofs only [kz, kk0, kk1, kk2, kk3, ↓two_true, ↓two_false, mkv, aggAt, Nat.reduceLeDiff, Nat.reduceSub, Nat.reduceMul, implies_true, Nat.reduceEqDiff, reduceIte, Nat.reduceAdd, Nat.reduceBEq, reduceCtorEq, al77, ap37_37, ap64_64, bd77, bs37_1, bs64_1, fa54_1, fa77_4, fa120_0, fa120_1, fa120_2, ix25, ld3, ld25, ld37, ld64, ld77, st3, st37, st64, st77, q6.rd 0 rfl, q6.rd 1 rfl, w1]
    refine st_app7 q6 2 0 rfl rfl (fun B h => nilRow) (by decide) fun a2 c2 H7 ys q7 => ?_
    simp only [List.set_cons_zero, List.set_cons_succ] at q7
    obtain ⟨cs7, hrd7, -, d7⟩ := tok_at2 (q7.ft 3 rfl) hl hin
    simp -implicitDefEqProofs only [kz, kk0, kk1, kk2, kk3, ↓two_true, ↓two_false, mkv, aggAt, Nat.reduceLeDiff, Nat.reduceSub, Nat.reduceMul, implies_true, Nat.reduceEqDiff, reduceIte, Nat.reduceAdd, Nat.reduceBEq, reduceCtorEq, al77, ap37_37, ap64_64, bd77, bs37_1, bs64_1, fa54_1, fa77_4, fa120_0, fa120_1, fa120_2, ix25, ld3, ld25, ld37, ld64, ld77, st3, st37, st64, st77, q7.rd 1 rfl, if_pos g1, Int.toNat_natCast, hrd7, d7, w1]
    refine st_set q7 1 rfl fun H8 q8 => ?_
    simp only [List.set_cons_zero, List.set_cons_succ] at q8
    simp -implicitDefEqProofs only [kz, kk0, kk1, kk2, kk3, ↓two_true, ↓two_false, mkv, aggAt, Nat.reduceLeDiff, Nat.reduceSub, Nat.reduceMul, implies_true, Nat.reduceEqDiff, reduceIte, Nat.reduceAdd, Nat.reduceBEq, reduceCtorEq, al77, ap37_37, ap64_64, bd77, bs37_1, bs64_1, fa54_1, fa77_4, fa120_0, fa120_1, fa120_2, ix25, ld3, ld25, ld37, ld64, ld77, st3, st37, st64, st77, q8.rd 1 rfl, w1]
    refine st_set q8 1 rfl fun H9 q9 => ?_
    simp only [List.set_cons_zero, List.set_cons_succ] at q9
    simp -implicitDefEqProofs only [kz, kk0, kk1, kk2, kk3, ↓two_true, ↓two_false, mkv, aggAt, Nat.reduceLeDiff, Nat.reduceSub, Nat.reduceMul, implies_true, Nat.reduceEqDiff, reduceIte, Nat.reduceAdd, Nat.reduceBEq, reduceCtorEq, al77, ap37_37, ap64_64, bd77, bs37_1, bs64_1, fa54_1, fa77_4, fa120_0, fa120_1, fa120_2, ix25, ld3, ld25, ld37, ld64, ld77, st3, st37, st64, st77, q9.rd 1 rfl, w1]
    have qa := q9.front 4 [1, 2, 3] (by decide) rfl
    simp only [List.filterMap_cons, List.filterMap_nil, List.getElem?_cons_zero, List.getElem?_cons_succ, List.drop_succ_cons, List.drop_zero, List.cons_append, List.nil_append] at qa
    refine ⟨true, at' + 1, a2, c2, 1, ys, _, rfl, qa, by omega, hin, fun _ => ⟨by omega, by omega, ?_⟩⟩
    rw [ndL_one rfl]
    refine PT.leaf ?_ (show (2 : Int) < 3 by decide)
    simp [ndOf, ndOk, hnv]
  · have e4 : tkK toks at' = 4 := by simpa using u4
    have hin : at' < nt := by have := tkK_in (l := toks) (i := at') (by omega); omega
    have w1 : IntKind.i64.wrap ((at' : Int) + 1) = ((at' + 1 : Nat) : Int) := by rw [IntWalk.i64_in _ (by omega)]; omega
    simp -implicitDefEqProofs only [kz, kk0, kk1, kk2, kk3, ↓two_true, ↓two_false, mkv, aggAt, Nat.reduceLeDiff, Nat.reduceSub, Nat.reduceMul, implies_true, Nat.reduceEqDiff, reduceIte, Nat.reduceAdd, Nat.reduceBEq, reduceCtorEq, al77, ap37_37, ap64_64, bd77, bs37_1, bs64_1, fa54_1, fa77_4, fa120_0, fa120_1, fa120_2, ix25, ld3, ld25, ld37, ld64, ld77, st3, st37, st64, st77, q.rd 0 rfl, w1]
    refine st_set q 0 rfl fun H1 q1 => ?_
    simp only [List.set_cons_zero, List.set_cons_succ] at q1
    simp -implicitDefEqProofs only [kz, kk0, kk1, kk2, kk3, ↓two_true, ↓two_false, mkv, aggAt, Nat.reduceLeDiff, Nat.reduceSub, Nat.reduceMul, implies_true, Nat.reduceEqDiff, reduceIte, Nat.reduceAdd, Nat.reduceBEq, reduceCtorEq, al77, ap37_37, ap64_64, bd77, bs37_1, bs64_1, fa54_1, fa77_4, fa120_0, fa120_1, fa120_2, ix25, ld3, ld25, ld37, ld64, ld77, st3, st37, st64, st77, q1.rd 0 rfl, w1]
    refine (ih q1 hl h3 hin (by omega) hT).mono ?_
    rintro _ H2 ⟨ok, a2, na, nc, m, xs, V, rfl, q2, l1, l2, l3⟩
    cases ok with
    | false =>
      simp -implicitDefEqProofs only [kz, kk0, kk1, kk2, kk3, ↓two_true, ↓two_false, mkv, aggAt, Nat.reduceLeDiff, Nat.reduceSub, Nat.reduceMul, implies_true, Nat.reduceEqDiff, reduceIte, Nat.reduceAdd, Nat.reduceBEq, reduceCtorEq, al77, ap37_37, ap64_64, bd77, bs37_1, bs64_1, fa54_1, fa77_4, fa120_0, fa120_1, fa120_2, ix25, ld3, ld25, ld37, ld64, ld77, st3, st37, st64, st77, q2.rd 0 rfl, Bool.not_false]
      exact ⟨false, a2, na, nc, m, xs, V, rfl, q2, by omega, l2, fun h => by cases h⟩
    | true =>
      obtain ⟨l4, l5, l6⟩ := l3 rfl
      have t2 := q2.tc 0 2 rfl rfl rfl hl h3 l2
      have k2 : ∀ Φ, CallsA Try.prog 110 #[.pointer (some ⟨cb, 0, none⟩), .int .i64 0] H2 Φ = Φ (.int .i64 (tkK toks a2)) H2 := fun Φ => l9Kind_eq (k := 0) t2 (by decide)
      have w2 : IntKind.i64.wrap ((a2 : Int) + 1) = ((a2 + 1 : Nat) : Int) := by rw [IntWalk.i64_in _ (by omega)]; omega
      simp -implicitDefEqProofs only [kz, kk0, kk1, kk2, kk3, ↓two_true, ↓two_false, mkv, aggAt, Nat.reduceLeDiff, Nat.reduceSub, Nat.reduceMul, implies_true, Nat.reduceEqDiff, reduceIte, Nat.reduceAdd, Nat.reduceBEq, reduceCtorEq, al77, ap37_37, ap64_64, bd77, bs37_1, bs64_1, fa54_1, fa77_4, fa120_0, fa120_1, fa120_2, ix25, ld3, ld25, ld37, ld64, ld77, st3, st37, st64, st77, q2.rd 0 rfl, k2, w2, Bool.not_true]
      refine two_intro (fun v => ?_) (fun v => ?_)
      · exact ⟨false, a2, na, nc, m, xs, V, rfl, q2, by omega, l2, fun h => by cases h⟩
      · have f5 : tkK toks a2 = 5 := by simpa using v
        have hin2 : a2 < nt := by have := tkK_in (l := toks) (i := a2) (by omega); omega
        try simp -implicitDefEqProofs only [kz, kk0, kk1, kk2, kk3, ↓two_true, ↓two_false, mkv, aggAt, Nat.reduceLeDiff, Nat.reduceSub, Nat.reduceMul, implies_true, Nat.reduceEqDiff, reduceIte, Nat.reduceAdd, Nat.reduceBEq, reduceCtorEq, al77, ap37_37, ap64_64, bd77, bs37_1, bs64_1, fa54_1, fa77_4, fa120_0, fa120_1, fa120_2, ix25, ld3, ld25, ld37, ld64, ld77, st3, st37, st64, st77, q2.rd 0 rfl, w2]
        refine st_set q2 0 rfl fun H3 q3 => ?_
        simp only [List.set_cons_zero, List.set_cons_succ] at q3
        simp -implicitDefEqProofs only [kz, kk0, kk1, kk2, kk3, ↓two_true, ↓two_false, mkv, aggAt, Nat.reduceLeDiff, Nat.reduceSub, Nat.reduceMul, implies_true, Nat.reduceEqDiff, reduceIte, Nat.reduceAdd, Nat.reduceBEq, reduceCtorEq, al77, ap37_37, ap64_64, bd77, bs37_1, bs64_1, fa54_1, fa77_4, fa120_0, fa120_1, fa120_2, ix25, ld3, ld25, ld37, ld64, ld77, st3, st37, st64, st77, q3.rd 0 rfl]
        exact ⟨true, a2 + 1, na, nc, m, xs, V, rfl, q3, by omega, hin2, fun _ => ⟨by omega, by omega, l6⟩⟩
  · exact ⟨false, at', none, 0, 0, [], [], rfl, q0, Nat.le_refl _, h4, fun h => by cases h⟩

theorem PT.sh0 {l : List Nd} (h : PT l) (hl : l.length ≤ 1000) : PT (l.map (shN 0)) := by
  obtain ⟨a1, ⟨w, e1, e2, e3, e4⟩, a3⟩ := h
  have hs := ownG_sh (acc := []) (by simp) (own := []) OwB.nil a1 (by simpa using hl) e1
  refine ⟨?_, ⟨w, hs, e2, by simp [e3], by rw [List.length_map]; exact e4⟩, by simpa using a3⟩
  rw [List.all_map, List.all_eq_true]
  rw [List.all_eq_true] at a1
  intro y hy
  exact ndOk_sh (a1 y hy)
theorem LX.tlen {c : Option Nat} {H0 H : AH} {L : List Ix} {v : Value} {n : Nat} {xs : List Value} {V : List CV} (q : LX c H0 H L) (i : Nat) (hi : L[i]? = some (.tab v kExpr n xs V)) : V.length = n * 7 := by
  obtain ⟨e1, e2⟩ := q.tb i hi
  rw [← e2]
  have := e1.len
  simp only [cvs, List.length_map]
  exact this

set_option maxHeartbeats 4000000 in
theorem l9Line_step {N : Nat} (ih : LineC Try.prog 107 N) (io : LineC Try.prog 112 (N + 1)) : LineC Try.prog 107 (N + 1) := by
  intro cc H0 H L cb ta tc nt at' ts toks q hl h3 h4 hN hT
  have t0 := q.tc 0 1 rfl rfl rfl hl h3 h4
  have k0 : ∀ Φ, CallsA Try.prog 110 #[.pointer (some ⟨cb, 0, none⟩), .int .i64 0] H Φ = Φ (.int .i64 (tkK toks at')) H := fun Φ => l9Kind_eq (k := 0) t0 (by decide)
  have k1 : ∀ Φ, CallsA Try.prog 110 #[.pointer (some ⟨cb, 0, none⟩), .int .i64 1] H Φ = Φ (.int .i64 (tkK toks (at' + 1))) H := fun Φ => l9Kind_eq (k := 1) t0 (by decide)
  refine w107 ?_
  unfold k107
  by_cases hset : tkK toks at' = 2 ∧ tkK toks (at' + 1) = 6
  · obtain ⟨e2, e6⟩ := hset
    have b2 : (tkK toks at' == 2) = true := by rw [e2]; rfl
    have b6 : (tkK toks (at' + 1) == 6) = true := by rw [e6]; rfl
    have hin : at' + 1 < nt := by have := tkK_in (l := toks) (i := at' + 1) (by omega); omega
    have hv := tok_all hT (i := at') (by omega)
    have hnv : inB (tkV toks at') 0 25 = true := by
      rw [e2] at hv
      simpa [tokOk] using hv
    obtain ⟨f, g⟩ := q.ft 1 rfl
    obtain ⟨b, o, cs, rfl, rfl, hrd, c0, c1⟩ := tok_at f g hl (i := at') (by omega)
    have g1 : (0 : Int) ≤ (at' : Int) ∧ (at' : Int) < (nt : Int) := by omega
    have w1 : IntKind.i64.wrap ((at' : Int) + 2) = ((at' + 2 : Nat) : Int) := by rw [IntWalk.i64_in _ (by omega)]; omega
    simp -implicitDefEqProofs only [kz, kk0, kk1, kk2, kk3, ↓two_true, ↓two_false, mkv, aggAt, Nat.reduceLeDiff, Nat.reduceSub, Nat.reduceMul, implies_true, Nat.reduceEqDiff, reduceIte, Nat.reduceAdd, Nat.reduceBEq, reduceCtorEq, al63, ap37_37, bd77, bd120, bs37_1, fa54_1, fa120_0, fa120_1, fa120_2, ix25, ld3, ld25, ld37, ld63, ln37, st3, st37, st63, k0, k1, b2, b6, q.rd 0 rfl, if_pos g1, Int.toNat_natCast, hrd, c1, w1]
    refine st_set q 0 rfl fun H1 q1 => ?_
    simp only [List.set_cons_zero, List.set_cons_succ] at q1
    simp -implicitDefEqProofs only [kz, kk0, kk1, kk2, kk3, ↓two_true, ↓two_false, mkv, aggAt, Nat.reduceLeDiff, Nat.reduceSub, Nat.reduceMul, implies_true, Nat.reduceEqDiff, reduceIte, Nat.reduceAdd, Nat.reduceBEq, reduceCtorEq, al63, ap37_37, bd77, bd120, bs37_1, fa54_1, fa120_0, fa120_1, fa120_2, ix25, ld3, ld25, ld37, ld63, ln37, st3, st37, st63, q1.rd 0 rfl, w1]
    refine (ih q1 hl h3 hin (by omega) hT).mono ?_
    rintro _ H2 ⟨ok, a2, na, nc, m, xs, V, rfl, q2, l1, l2, l3⟩
    cases ok with
    | false =>
      simp -implicitDefEqProofs only [kz, kk0, kk1, kk2, kk3, ↓two_true, ↓two_false, mkv, aggAt, Nat.reduceLeDiff, Nat.reduceSub, Nat.reduceMul, implies_true, Nat.reduceEqDiff, reduceIte, Nat.reduceAdd, Nat.reduceBEq, reduceCtorEq, al63, ap37_37, bd77, bd120, bs37_1, fa54_1, fa120_0, fa120_1, fa120_2, ix25, ld3, ld25, ld37, ld63, ln37, st3, st37, st63, q2.rd 0 rfl, Bool.not_false]
      exact ⟨false, a2, na, nc, m, xs, V, rfl, q2, by omega, l2, fun h => by cases h⟩
    | true =>
      obtain ⟨l4, l5, l6⟩ := l3 rfl
      have hV := q2.tlen 1 rfl
      have wm : IntKind.i64.wrap ((m : Int) - 1) = (m : Int) - 1 := IntWalk.i64_in _ (by omega)
      simp -implicitDefEqProofs only [kz, kk0, kk1, kk2, kk3, ↓two_true, ↓two_false, mkv, aggAt, Nat.reduceLeDiff, Nat.reduceSub, Nat.reduceMul, implies_true, Nat.reduceEqDiff, reduceIte, Nat.reduceAdd, Nat.reduceBEq, reduceCtorEq, al63, ap37_37, bd77, bd120, bs37_1, fa54_1, fa120_0, fa120_1, fa120_2, ix25, ld3, ld25, ld37, ld63, ln37, st3, st37, st63, q2.rd 0 rfl, Bool.not_true, wm]
      refine st_cells q2 fun H3 q3 => ?_
      simp -implicitDefEqProofs only [kz, kk0, kk1, kk2, kk3, ↓two_true, ↓two_false, mkv, aggAt, Nat.reduceLeDiff, Nat.reduceSub, Nat.reduceMul, implies_true, Nat.reduceEqDiff, reduceIte, Nat.reduceAdd, Nat.reduceBEq, reduceCtorEq, al63, ap37_37, bd77, bd120, bs37_1, fa54_1, fa120_0, fa120_1, fa120_2, ix25, ld3, ld25, ld37, ld63, ln37, st3, st37, st63, q3.rd 0 rfl, q3.rd 1 rfl, wm]
      refine st_app7 q3 2 0 rfl rfl (fun B h => nilRow) (by omega) fun a5 c5 H4 ys q4 => ?_
      simp only [List.set_cons_zero, List.set_cons_succ] at q4
      simp -implicitDefEqProofs only [kz, kk0, kk1, kk2, kk3, ↓two_true, ↓two_false, mkv, aggAt, Nat.reduceLeDiff, Nat.reduceSub, Nat.reduceMul, implies_true, Nat.reduceEqDiff, reduceIte, Nat.reduceAdd, Nat.reduceBEq, reduceCtorEq, al63, ap37_37, bd77, bd120, bs37_1, fa54_1, fa120_0, fa120_1, fa120_2, ix25, ld3, ld25, ld37, ld63, ln37, st3, st37, st63, q4.rd 1 rfl, wm]
      refine st_set q4 1 rfl fun H5 q5 => ?_
      simp only [List.set_cons_zero, List.set_cons_succ] at q5
      simp -implicitDefEqProofs only [kz, kk0, kk1, kk2, kk3, ↓two_true, ↓two_false, mkv, aggAt, Nat.reduceLeDiff, Nat.reduceSub, Nat.reduceMul, implies_true, Nat.reduceEqDiff, reduceIte, Nat.reduceAdd, Nat.reduceBEq, reduceCtorEq, al63, ap37_37, bd77, bd120, bs37_1, fa54_1, fa120_0, fa120_1, fa120_2, ix25, ld3, ld25, ld37, ld63, ln37, st3, st37, st63, q5.rd 1 rfl]
      have qa := q5.front 4 [1, 2, 3] (by decide) rfl
      simp only [List.filterMap_cons, List.filterMap_nil, List.getElem?_cons_zero, List.getElem?_cons_succ, List.drop_succ_cons, List.drop_zero, List.cons_append, List.nil_append] at qa
      refine ⟨true, a2, a5, c5, m + 1, ys, _, rfl, qa, by omega, l2, fun _ => ⟨by omega, by omega, ?_⟩⟩
      rw [ndL_snoc hV rfl]
      refine l6.un ?_ (.inl rfl) (by rw [ndL_len]; rfl)
      simp [ndOf, ndOk, hnv]
  · have hpick : ∀ (A B : Prop), two (tkK toks at' == 2) (two (tkK toks (at' + 1) == 6) A B) B = B := fun A B => by
      by_cases e2 : tkK toks at' = 2
      · have e6 : ¬ tkK toks (at' + 1) = 6 := fun e => hset ⟨e2, e⟩
        rw [show (tkK toks at' == 2) = true by simpa using e2, show (tkK toks (at' + 1) == 6) = false by simpa using e6]
        simp [two]
      · rw [show (tkK toks at' == 2) = false by simpa using e2]
        simp [two]
    by_cases e2 : tkK toks at' = 2
    · have e6 : ¬ tkK toks (at' + 1) = 6 := fun e => hset ⟨e2, e⟩
      have b2 : (tkK toks at' == 2) = true := by simpa using e2
      have b6 : (tkK toks (at' + 1) == 6) = false := by simpa using e6
      have b3 : (tkK toks at' == 3) = false := by rw [e2]; rfl
      simp -implicitDefEqProofs only [kz, kk0, kk1, kk2, kk3, ↓two_true, ↓two_false, mkv, aggAt, Nat.reduceLeDiff, Nat.reduceSub, Nat.reduceMul, implies_true, Nat.reduceEqDiff, reduceIte, Nat.reduceAdd, Nat.reduceBEq, reduceCtorEq, al63, ap37_37, bd77, bd120, bs37_1, fa54_1, fa120_0, fa120_1, fa120_2, ix25, ld3, ld25, ld37, ld63, ln37, st3, st37, st63, k0, k1, b2, b6, b3, q.rd 0 rfl]
      refine st_box q fun H1 q1 => ?_
      simp -implicitDefEqProofs only [kz, kk0, kk1, kk2, kk3, ↓two_true, ↓two_false, mkv, aggAt, Nat.reduceLeDiff, Nat.reduceSub, Nat.reduceMul, implies_true, Nat.reduceEqDiff, reduceIte, Nat.reduceAdd, Nat.reduceBEq, reduceCtorEq, al63, ap37_37, bd77, bd120, bs37_1, fa54_1, fa120_0, fa120_1, fa120_2, ix25, ld3, ld25, ld37, ld63, ln37, st3, st37, st63, q1.rd 0 rfl, q1.rd 1 rfl]
      have no : ∀ {H9 : AH} {a9 : Nat} {na : Option Addr} {nc m : Nat} {xs : List Value} {V : List CV}, LX cc H0 H9 (.own (.box cb [.slice ta nt tc, .int .i64 (a9 : Nat), .slice na m nc]) :: .tab (.slice na m nc) kExpr m xs V :: .ftab (.slice ta nt tc) kToken nt ts (tokV toks) :: L) → at' ≤ a9 → a9 ≤ nt → LineR cc H0 L cb ta tc nt at' ts toks (.bool false) H9 :=
        fun q9 h h' => ⟨false, _, _, _, _, _, _, rfl, q9, h, h', fun h => by cases h⟩
      have q2 := q1.front 3 [0, 2, 1] (by decide) rfl
      simp only [List.filterMap_cons, List.filterMap_nil, List.getElem?_cons_zero, List.getElem?_cons_succ, List.drop_succ_cons, List.drop_zero, List.cons_append, List.nil_append] at q2
      refine (io q2 hl h3 h4 (by omega) hT).mono ?_
      rintro _ H3 ⟨ok, a2, la, lc, k, ys, W, rfl, q3, l1, l2, l3⟩
      cases ok with
      | false =>
        simp -implicitDefEqProofs only [kz, kk0, kk1, kk2, kk3, ↓two_true, ↓two_false, mkv, aggAt, Nat.reduceLeDiff, Nat.reduceSub, Nat.reduceMul, implies_true, Nat.reduceEqDiff, reduceIte, Nat.reduceAdd, Nat.reduceBEq, reduceCtorEq, al63, ap37_37, bd77, bd120, bs37_1, fa54_1, fa120_0, fa120_1, fa120_2, ix25, ld3, ld25, ld37, ld63, ln37, st3, st37, st63, Bool.not_false]
        have q4 := (q3.ntab kExpr).front 5 [4, 0, 3] (by decide) rfl
        simp only [List.filterMap_cons, List.filterMap_nil, List.getElem?_cons_zero, List.getElem?_cons_succ, List.drop_succ_cons, List.drop_zero, List.cons_append, List.nil_append] at q4
        exact no q4 (Nat.le_refl _) h4
      | true =>
        obtain ⟨l4, l5, l6⟩ := l3 rfl
        simp -implicitDefEqProofs only [kz, kk0, kk1, kk2, kk3, ↓two_true, ↓two_false, mkv, aggAt, Nat.reduceLeDiff, Nat.reduceSub, Nat.reduceMul, implies_true, Nat.reduceEqDiff, reduceIte, Nat.reduceAdd, Nat.reduceBEq, reduceCtorEq, al63, ap37_37, bd77, bd120, bs37_1, fa54_1, fa120_0, fa120_1, fa120_2, ix25, ld3, ld25, ld37, ld63, ln37, st3, st37, st63, Bool.not_true, q3.rd 0 rfl, q3.rd 3 rfl]
        refine st_set q3 3 rfl fun H4 q4 => ?_
        simp only [List.set_cons_zero, List.set_cons_succ] at q4
        simp -implicitDefEqProofs only [kz, kk0, kk1, kk2, kk3, ↓two_true, ↓two_false, mkv, aggAt, Nat.reduceLeDiff, Nat.reduceSub, Nat.reduceMul, implies_true, Nat.reduceEqDiff, reduceIte, Nat.reduceAdd, Nat.reduceBEq, reduceCtorEq, al63, ap37_37, bd77, bd120, bs37_1, fa54_1, fa120_0, fa120_1, fa120_2, ix25, ld3, ld25, ld37, ld63, ln37, st3, st37, st63, q4.rd 0 rfl, q4.rd 3 rfl]
        have q5 := q4.front 4 [3, 2, 0, 1] (by decide) rfl
        simp only [List.filterMap_cons, List.filterMap_nil, List.getElem?_cons_zero, List.getElem?_cons_succ, List.drop_succ_cons, List.drop_zero, List.cons_append, List.nil_append] at q5
        refine (l9Fun_ok q5 hl h3 l2).mono ?_
        rintro _ H6 ⟨s, o, w, ok1, a3, rfl, q6, m1, m2, m3, m4, -⟩
        simp -implicitDefEqProofs only [kz, kk0, kk1, kk2, kk3, ↓two_true, ↓two_false, mkv, aggAt, Nat.reduceLeDiff, Nat.reduceSub, Nat.reduceMul, implies_true, Nat.reduceEqDiff, reduceIte, Nat.reduceAdd, Nat.reduceBEq, reduceCtorEq, al63, ap37_37, bd77, bd120, bs37_1, fa54_1, fa120_0, fa120_1, fa120_2, ix25, ld3, ld25, ld37, ld63, ln37, st3, st37, st63]
        refine st_box q6 fun H7 q7 => ?_
        simp -implicitDefEqProofs only [kz, kk0, kk1, kk2, kk3, ↓two_true, ↓two_false, mkv, aggAt, Nat.reduceLeDiff, Nat.reduceSub, Nat.reduceMul, implies_true, Nat.reduceEqDiff, reduceIte, Nat.reduceAdd, Nat.reduceBEq, reduceCtorEq, al63, ap37_37, bd77, bd120, bs37_1, fa54_1, fa120_0, fa120_1, fa120_2, ix25, ld3, ld25, ld37, ld63, ln37, st3, st37, st63, q7.rd 0 rfl]
        refine st_set q7 0 rfl fun H8 q8 => ?_
        simp only [List.set_cons_zero, List.set_cons_succ] at q8
        cases ok1 with
        | false =>
          simp -implicitDefEqProofs only [kz, kk0, kk1, kk2, kk3, ↓two_true, ↓two_false, mkv, aggAt, Nat.reduceLeDiff, Nat.reduceSub, Nat.reduceMul, implies_true, Nat.reduceEqDiff, reduceIte, Nat.reduceAdd, Nat.reduceBEq, reduceCtorEq, al63, ap37_37, bd77, bd120, bs37_1, fa54_1, fa120_0, fa120_1, fa120_2, ix25, ld3, ld25, ld37, ld63, ln37, st3, st37, st63, Bool.not_false, q8.rd 0 rfl, q8.rd 1 rfl, q8.rd 3 rfl]
          have q9 := (q8.ntab kExpr).front 6 [2, 0, 5, 3] (by decide) rfl
          simp only [List.filterMap_cons, List.filterMap_nil, List.getElem?_cons_zero, List.getElem?_cons_succ, List.drop_succ_cons, List.drop_zero, List.cons_append, List.nil_append] at q9
          refine (l9Behind_ok q9 (by omega)).mono ?_
          rintro _ Ha ⟨a9, c9, zs, Z, qa, hZ⟩
          simp -implicitDefEqProofs only [kz, kk0, kk1, kk2, kk3, ↓two_true, ↓two_false, mkv, aggAt, Nat.reduceLeDiff, Nat.reduceSub, Nat.reduceMul, implies_true, Nat.reduceEqDiff, reduceIte, Nat.reduceAdd, Nat.reduceBEq, reduceCtorEq, al63, ap37_37, bd77, bd120, bs37_1, fa54_1, fa120_0, fa120_1, fa120_2, ix25, ld3, ld25, ld37, ld63, ln37, st3, st37, st63]
          have qb := qa.front 4 [0, 1, 3] (by decide) rfl
          simp only [List.filterMap_cons, List.filterMap_nil, List.getElem?_cons_zero, List.getElem?_cons_succ, List.drop_succ_cons, List.drop_zero, List.cons_append, List.nil_append] at qb
          simp only [Nat.zero_add] at qb hZ
          refine ⟨true, a3, a9, c9, k, zs, Z, rfl, qb, by omega, m2, fun _ => ⟨by omega, by omega, ?_⟩⟩
          rw [hZ, ndL_zero, List.nil_append]
          exact l6.sh0 (by rw [ndL_len]; omega)
        | true =>
          have hlt := m3 rfl
          simp -implicitDefEqProofs only [kz, kk0, kk1, kk2, kk3, ↓two_true, ↓two_false, mkv, aggAt, Nat.reduceLeDiff, Nat.reduceSub, Nat.reduceMul, implies_true, Nat.reduceEqDiff, reduceIte, Nat.reduceAdd, Nat.reduceBEq, reduceCtorEq, al63, ap37_37, bd77, bd120, bs37_1, fa54_1, fa120_0, fa120_1, fa120_2, ix25, ld3, ld25, ld37, ld63, ln37, st3, st37, st63, Bool.not_true, q8.rd 0 rfl, q8.rd 1 rfl, q8.rd 3 rfl, specFunTwo_eq]
          have q9 := (q8.front 5 [1, 2, 0, 3, 4] (by decide) rfl).extd ⟨jk Try.prog 83 #[.agg #[.int .i64 s, .int .i64 o, .int .i64 w]] H8, rfl⟩
          simp only [List.filterMap_cons, List.filterMap_nil, List.getElem?_cons_zero, List.getElem?_cons_succ, List.drop_succ_cons, List.drop_zero, List.cons_append, List.nil_append] at q9
          cases hf : funTwo s o w with
          | false =>
            simp -implicitDefEqProofs only [kz, kk0, kk1, kk2, kk3, ↓two_true, ↓two_false, mkv, aggAt, Nat.reduceLeDiff, Nat.reduceSub, Nat.reduceMul, implies_true, Nat.reduceEqDiff, reduceIte, Nat.reduceAdd, Nat.reduceBEq, reduceCtorEq, al63, ap37_37, bd77, bd120, bs37_1, fa54_1, fa120_0, fa120_1, fa120_2, ix25, ld3, ld25, ld37, ld63, ln37, st3, st37, st63, hf, Bool.not_false]
            have qa := (q9.ntab kExpr).front 6 [1, 0, 2] (by decide) rfl
            simp only [List.filterMap_cons, List.filterMap_nil, List.getElem?_cons_zero, List.getElem?_cons_succ, List.drop_succ_cons, List.drop_zero, List.cons_append, List.nil_append] at qa
            exact no qa (by omega) m2
          | true =>
            simp -implicitDefEqProofs only [kz, kk0, kk1, kk2, kk3, ↓two_true, ↓two_false, mkv, aggAt, Nat.reduceLeDiff, Nat.reduceSub, Nat.reduceMul, implies_true, Nat.reduceEqDiff, reduceIte, Nat.reduceAdd, Nat.reduceBEq, reduceCtorEq, al63, ap37_37, bd77, bd120, bs37_1, fa54_1, fa120_0, fa120_1, fa120_2, ix25, ld3, ld25, ld37, ld63, ln37, st3, st37, st63, hf, Bool.not_true]
            refine (ih q9 hl h3 m2 (by omega) hT).mono ?_
            rintro _ Ha ⟨ok, a4, na, nc, m, xs, R, rfl, qa, n1, n2, n3⟩
            cases ok with
            | false =>
              simp -implicitDefEqProofs only [kz, kk0, kk1, kk2, kk3, ↓two_true, ↓two_false, mkv, aggAt, Nat.reduceLeDiff, Nat.reduceSub, Nat.reduceMul, implies_true, Nat.reduceEqDiff, reduceIte, Nat.reduceAdd, Nat.reduceBEq, reduceCtorEq, al63, ap37_37, bd77, bd120, bs37_1, fa54_1, fa120_0, fa120_1, fa120_2, ix25, ld3, ld25, ld37, ld63, ln37, st3, st37, st63, Bool.not_false]
              have qb := qa.front 6 [0, 1, 2] (by decide) rfl
              simp only [List.filterMap_cons, List.filterMap_nil, List.getElem?_cons_zero, List.getElem?_cons_succ, List.drop_succ_cons, List.drop_zero, List.cons_append, List.nil_append] at qb
              exact no qb (by omega) n2
            | true =>
              obtain ⟨n4, n5, n6⟩ := n3 rfl
              have wm : IntKind.i64.wrap ((m : Int) - 1) = (m : Int) - 1 := IntWalk.i64_in _ (by omega)
              simp -implicitDefEqProofs only [kz, kk0, kk1, kk2, kk3, ↓two_true, ↓two_false, mkv, aggAt, Nat.reduceLeDiff, Nat.reduceSub, Nat.reduceMul, implies_true, Nat.reduceEqDiff, reduceIte, Nat.reduceAdd, Nat.reduceBEq, reduceCtorEq, al63, ap37_37, bd77, bd120, bs37_1, fa54_1, fa120_0, fa120_1, fa120_2, ix25, ld3, ld25, ld37, ld63, ln37, st3, st37, st63, qa.rd 0 rfl, qa.rd 3 rfl, qa.rd 4 rfl, Bool.not_true, wm]
              have qb := qa.front 6 [0, 1, 5, 2, 3] (by decide) rfl
              simp only [List.filterMap_cons, List.filterMap_nil, List.getElem?_cons_zero, List.getElem?_cons_succ, List.drop_succ_cons, List.drop_zero, List.cons_append, List.nil_append] at qb
              refine (l9Behind_ok qb (by omega)).mono ?_
              rintro _ Hc ⟨a9, c9, zs, Z, qc, hZ⟩
              have hV := qc.tlen 1 rfl
              have wk : IntKind.i64.wrap (((m + k : Nat) : Int) - 1) = ((m + k : Nat) : Int) - 1 := IntWalk.i64_in _ (by omega)
              simp -implicitDefEqProofs only [kz, kk0, kk1, kk2, kk3, ↓two_true, ↓two_false, mkv, aggAt, Nat.reduceLeDiff, Nat.reduceSub, Nat.reduceMul, implies_true, Nat.reduceEqDiff, reduceIte, Nat.reduceAdd, Nat.reduceBEq, reduceCtorEq, al63, ap37_37, bd77, bd120, bs37_1, fa54_1, fa120_0, fa120_1, fa120_2, ix25, ld3, ld25, ld37, ld63, ln37, st3, st37, st63, qc.rd 0 rfl, qc.rd 4 rfl, wk]
              refine st_cells qc fun Hd qd => ?_
              simp -implicitDefEqProofs only [kz, kk0, kk1, kk2, kk3, ↓two_true, ↓two_false, mkv, aggAt, Nat.reduceLeDiff, Nat.reduceSub, Nat.reduceMul, implies_true, Nat.reduceEqDiff, reduceIte, Nat.reduceAdd, Nat.reduceBEq, reduceCtorEq, al63, ap37_37, bd77, bd120, bs37_1, fa54_1, fa120_0, fa120_1, fa120_2, ix25, ld3, ld25, ld37, ld63, ln37, st3, st37, st63, qd.rd 0 rfl, qd.rd 1 rfl, qd.rd 5 rfl, wk]
              refine st_app7 qd 2 0 rfl rfl (fun B h => nilRow) (by omega) fun a7 c7 He us qe => ?_
              simp only [List.set_cons_zero, List.set_cons_succ] at qe
              simp -implicitDefEqProofs only [kz, kk0, kk1, kk2, kk3, ↓two_true, ↓two_false, mkv, aggAt, Nat.reduceLeDiff, Nat.reduceSub, Nat.reduceMul, implies_true, Nat.reduceEqDiff, reduceIte, Nat.reduceAdd, Nat.reduceBEq, reduceCtorEq, al63, ap37_37, bd77, bd120, bs37_1, fa54_1, fa120_0, fa120_1, fa120_2, ix25, ld3, ld25, ld37, ld63, ln37, st3, st37, st63, qe.rd 1 rfl, qe.rd 5 rfl, wk]
              refine st_set qe 1 rfl fun Hf qf => ?_
              simp only [List.set_cons_zero, List.set_cons_succ] at qf
              simp -implicitDefEqProofs only [kz, kk0, kk1, kk2, kk3, ↓two_true, ↓two_false, mkv, aggAt, Nat.reduceLeDiff, Nat.reduceSub, Nat.reduceMul, implies_true, Nat.reduceEqDiff, reduceIte, Nat.reduceAdd, Nat.reduceBEq, reduceCtorEq, al63, ap37_37, bd77, bd120, bs37_1, fa54_1, fa120_0, fa120_1, fa120_2, ix25, ld3, ld25, ld37, ld63, ln37, st3, st37, st63, qf.rd 1 rfl]
              have qg := qf.front 6 [1, 2, 4] (by decide) rfl
              simp only [List.filterMap_cons, List.filterMap_nil, List.getElem?_cons_zero, List.getElem?_cons_succ, List.drop_succ_cons, List.drop_zero, List.cons_append, List.nil_append] at qg
              refine ⟨true, a4, a7, c7, m + k + 1, us, _, rfl, qg, by omega, n2, fun _ => ⟨by omega, by omega, ?_⟩⟩
              rw [ndL_snoc hV rfl, hZ]
              have hm : (ndL R m).length = m := ndL_len
              have hk : (ndL W k).length = k := ndL_len
              have hb := n6.bin l6 (x := ndOf [.i 5, .i (((m + k : Nat) : Int) - 1), .i ((m : Int) - 1), .i s, .i o, .i w, .r []]) (by simp [ndOf, ndOk, hf]) rfl (by rw [hm, hk]; show ((m + k : Nat) : Int) - 1 = _; omega) (by rw [hm]; rfl) (by omega) (by omega)
              rw [hm] at hb
              exact hb
    · have b2 : (tkK toks at' == 2) = false := by simpa using e2
      by_cases e3 : tkK toks at' = 3
      · have b3 : (tkK toks at' == 3) = true := by simpa using e3
        have hin : at' < nt := by have := tkK_in (l := toks) (i := at') (by omega); omega
        have hv := tok_all hT (i := at') (by omega)
        have hs0 : tkS toks at' ≠ 0 := by
          unfold tkS
          rw [if_pos e3]
          intro e
          rw [e3, e] at hv
          revert hv
          decide
        simp -implicitDefEqProofs only [kz, kk0, kk1, kk2, kk3, ↓two_true, ↓two_false, mkv, aggAt, Nat.reduceLeDiff, Nat.reduceSub, Nat.reduceMul, implies_true, Nat.reduceEqDiff, reduceIte, Nat.reduceAdd, Nat.reduceBEq, reduceCtorEq, al63, ap37_37, bd77, bd120, bs37_1, fa54_1, fa120_0, fa120_1, fa120_2, ix25, ld3, ld25, ld37, ld63, ln37, st3, st37, st63, k0, k1, b2, b3, q.rd 0 rfl]
        refine (l9Fun_ok q hl h3 h4).mono ?_
        rintro _ H1 ⟨s, o, w, ok1, a2, rfl, q1, l1, l2, l3, l4, l5⟩
        have hlt := l3 (l5 hs0)
        simp -implicitDefEqProofs only [kz, kk0, kk1, kk2, kk3, ↓two_true, ↓two_false, mkv, aggAt, Nat.reduceLeDiff, Nat.reduceSub, Nat.reduceMul, implies_true, Nat.reduceEqDiff, reduceIte, Nat.reduceAdd, Nat.reduceBEq, reduceCtorEq, al63, ap37_37, bd77, bd120, bs37_1, fa54_1, fa120_0, fa120_1, fa120_2, ix25, ld3, ld25, ld37, ld63, ln37, st3, st37, st63]
        refine st_box q1 fun H2 q2 => ?_
        simp -implicitDefEqProofs only [kz, kk0, kk1, kk2, kk3, ↓two_true, ↓two_false, mkv, aggAt, Nat.reduceLeDiff, Nat.reduceSub, Nat.reduceMul, implies_true, Nat.reduceEqDiff, reduceIte, Nat.reduceAdd, Nat.reduceBEq, reduceCtorEq, al63, ap37_37, bd77, bd120, bs37_1, fa54_1, fa120_0, fa120_1, fa120_2, ix25, ld3, ld25, ld37, ld63, ln37, st3, st37, st63, q2.rd 0 rfl]
        refine st_set q2 0 rfl fun H3 q3 => ?_
        simp only [List.set_cons_zero, List.set_cons_succ] at q3
        simp -implicitDefEqProofs only [kz, kk0, kk1, kk2, kk3, ↓two_true, ↓two_false, mkv, aggAt, Nat.reduceLeDiff, Nat.reduceSub, Nat.reduceMul, implies_true, Nat.reduceEqDiff, reduceIte, Nat.reduceAdd, Nat.reduceBEq, reduceCtorEq, al63, ap37_37, bd77, bd120, bs37_1, fa54_1, fa120_0, fa120_1, fa120_2, ix25, ld3, ld25, ld37, ld63, ln37, st3, st37, st63, q3.rd 0 rfl, specFunOne_eq]
        have q4 := (q3.front 3 [1, 2, 0] (by decide) rfl).extd ⟨jk Try.prog 82 #[.agg #[.int .i64 s, .int .i64 o, .int .i64 w]] H3, rfl⟩
        simp only [List.filterMap_cons, List.filterMap_nil, List.getElem?_cons_zero, List.getElem?_cons_succ, List.drop_succ_cons, List.drop_zero, List.cons_append, List.nil_append] at q4
        have no : ∀ {H9 : AH} {a9 : Nat} {na : Option Addr} {nc m : Nat} {xs : List Value} {V : List CV}, LX cc H0 H9 (.own (.box cb [.slice ta nt tc, .int .i64 (a9 : Nat), .slice na m nc]) :: .tab (.slice na m nc) kExpr m xs V :: .ftab (.slice ta nt tc) kToken nt ts (tokV toks) :: L) → at' ≤ a9 → a9 ≤ nt → LineR cc H0 L cb ta tc nt at' ts toks (.bool false) H9 :=
          fun q9 h h' => ⟨false, _, _, _, _, _, _, rfl, q9, h, h', fun h => by cases h⟩
        cases hf : funOne s o w with
        | false =>
          simp -implicitDefEqProofs only [kz, kk0, kk1, kk2, kk3, ↓two_true, ↓two_false, mkv, aggAt, Nat.reduceLeDiff, Nat.reduceSub, Nat.reduceMul, implies_true, Nat.reduceEqDiff, reduceIte, Nat.reduceAdd, Nat.reduceBEq, reduceCtorEq, al63, ap37_37, bd77, bd120, bs37_1, fa54_1, fa120_0, fa120_1, fa120_2, ix25, ld3, ld25, ld37, ld63, ln37, st3, st37, st63, hf, Bool.not_false]
          have q5 := (q4.ntab kExpr).front 4 [1, 0, 2] (by decide) rfl
          simp only [List.filterMap_cons, List.filterMap_nil, List.getElem?_cons_zero, List.getElem?_cons_succ, List.drop_succ_cons, List.drop_zero, List.cons_append, List.nil_append] at q5
          exact no q5 l1 l2
        | true =>
          simp -implicitDefEqProofs only [kz, kk0, kk1, kk2, kk3, ↓two_true, ↓two_false, mkv, aggAt, Nat.reduceLeDiff, Nat.reduceSub, Nat.reduceMul, implies_true, Nat.reduceEqDiff, reduceIte, Nat.reduceAdd, Nat.reduceBEq, reduceCtorEq, al63, ap37_37, bd77, bd120, bs37_1, fa54_1, fa120_0, fa120_1, fa120_2, ix25, ld3, ld25, ld37, ld63, ln37, st3, st37, st63, hf, Bool.not_true]
          refine (ih q4 hl h3 l2 (by omega) hT).mono ?_
          rintro _ H5 ⟨ok, a5, na, nc, m, xs, V, rfl, q5, m1, m2, m3⟩
          cases ok with
          | false =>
            simp -implicitDefEqProofs only [kz, kk0, kk1, kk2, kk3, ↓two_true, ↓two_false, mkv, aggAt, Nat.reduceLeDiff, Nat.reduceSub, Nat.reduceMul, implies_true, Nat.reduceEqDiff, reduceIte, Nat.reduceAdd, Nat.reduceBEq, reduceCtorEq, al63, ap37_37, bd77, bd120, bs37_1, fa54_1, fa120_0, fa120_1, fa120_2, ix25, ld3, ld25, ld37, ld63, ln37, st3, st37, st63, Bool.not_false]
            have q6 := q5.front 4 [0, 1, 2] (by decide) rfl
            simp only [List.filterMap_cons, List.filterMap_nil, List.getElem?_cons_zero, List.getElem?_cons_succ, List.drop_succ_cons, List.drop_zero, List.cons_append, List.nil_append] at q6
            exact no q6 (by omega) m2
          | true =>
            obtain ⟨m4, m5, m6⟩ := m3 rfl
            have hV := q5.tlen 1 rfl
            have wm : IntKind.i64.wrap ((m : Int) - 1) = (m : Int) - 1 := IntWalk.i64_in _ (by omega)
            simp -implicitDefEqProofs only [kz, kk0, kk1, kk2, kk3, ↓two_true, ↓two_false, mkv, aggAt, Nat.reduceLeDiff, Nat.reduceSub, Nat.reduceMul, implies_true, Nat.reduceEqDiff, reduceIte, Nat.reduceAdd, Nat.reduceBEq, reduceCtorEq, al63, ap37_37, bd77, bd120, bs37_1, fa54_1, fa120_0, fa120_1, fa120_2, ix25, ld3, ld25, ld37, ld63, ln37, st3, st37, st63, q5.rd 0 rfl, q5.rd 3 rfl, Bool.not_true, wm]
            refine st_cells q5 fun H6 q6 => ?_
            simp -implicitDefEqProofs only [kz, kk0, kk1, kk2, kk3, ↓two_true, ↓two_false, mkv, aggAt, Nat.reduceLeDiff, Nat.reduceSub, Nat.reduceMul, implies_true, Nat.reduceEqDiff, reduceIte, Nat.reduceAdd, Nat.reduceBEq, reduceCtorEq, al63, ap37_37, bd77, bd120, bs37_1, fa54_1, fa120_0, fa120_1, fa120_2, ix25, ld3, ld25, ld37, ld63, ln37, st3, st37, st63, q6.rd 0 rfl, q6.rd 1 rfl, q6.rd 4 rfl, wm]
            refine st_app7 q6 2 0 rfl rfl (fun B h => nilRow) (by omega) fun a7 c7 H7 ys q7 => ?_
            simp only [List.set_cons_zero, List.set_cons_succ] at q7
            simp -implicitDefEqProofs only [kz, kk0, kk1, kk2, kk3, ↓two_true, ↓two_false, mkv, aggAt, Nat.reduceLeDiff, Nat.reduceSub, Nat.reduceMul, implies_true, Nat.reduceEqDiff, reduceIte, Nat.reduceAdd, Nat.reduceBEq, reduceCtorEq, al63, ap37_37, bd77, bd120, bs37_1, fa54_1, fa120_0, fa120_1, fa120_2, ix25, ld3, ld25, ld37, ld63, ln37, st3, st37, st63, q7.rd 1 rfl, q7.rd 4 rfl, wm]
            refine st_set q7 1 rfl fun H8 q8 => ?_
            simp only [List.set_cons_zero, List.set_cons_succ] at q8
            simp -implicitDefEqProofs only [kz, kk0, kk1, kk2, kk3, ↓two_true, ↓two_false, mkv, aggAt, Nat.reduceLeDiff, Nat.reduceSub, Nat.reduceMul, implies_true, Nat.reduceEqDiff, reduceIte, Nat.reduceAdd, Nat.reduceBEq, reduceCtorEq, al63, ap37_37, bd77, bd120, bs37_1, fa54_1, fa120_0, fa120_1, fa120_2, ix25, ld3, ld25, ld37, ld63, ln37, st3, st37, st63, q8.rd 1 rfl]
            have qa := q8.front 5 [1, 2, 3] (by decide) rfl
            simp only [List.filterMap_cons, List.filterMap_nil, List.getElem?_cons_zero, List.getElem?_cons_succ, List.drop_succ_cons, List.drop_zero, List.cons_append, List.nil_append] at qa
            refine ⟨true, a5, a7, c7, m + 1, ys, _, rfl, qa, by omega, m2, fun _ => ⟨by omega, by omega, ?_⟩⟩
            rw [ndL_snoc hV rfl]
            refine m6.un ?_ (.inr rfl) (by rw [ndL_len]; rfl)
            simp [ndOf, ndOk, hf]
      · have b3 : (tkK toks at' == 3) = false := by simpa using e3
        simp -implicitDefEqProofs only [kz, kk0, kk1, kk2, kk3, ↓two_true, ↓two_false, mkv, aggAt, Nat.reduceLeDiff, Nat.reduceSub, Nat.reduceMul, implies_true, Nat.reduceEqDiff, reduceIte, Nat.reduceAdd, Nat.reduceBEq, reduceCtorEq, al63, ap37_37, bd77, bd120, bs37_1, fa54_1, fa120_0, fa120_1, fa120_2, ix25, ld3, ld25, ld37, ld63, ln37, st3, st37, st63, k0, k1, b2, b3, q.rd 0 rfl]
        refine st_box q fun H1 q1 => ?_
        simp -implicitDefEqProofs only [kz, kk0, kk1, kk2, kk3, ↓two_true, ↓two_false, mkv, aggAt, Nat.reduceLeDiff, Nat.reduceSub, Nat.reduceMul, implies_true, Nat.reduceEqDiff, reduceIte, Nat.reduceAdd, Nat.reduceBEq, reduceCtorEq, al63, ap37_37, bd77, bd120, bs37_1, fa54_1, fa120_0, fa120_1, fa120_2, ix25, ld3, ld25, ld37, ld63, ln37, st3, st37, st63, q1.rd 0 rfl, q1.rd 1 rfl]
        have no : ∀ {H9 : AH} {a9 : Nat} {na : Option Addr} {nc m : Nat} {xs : List Value} {V : List CV}, LX cc H0 H9 (.own (.box cb [.slice ta nt tc, .int .i64 (a9 : Nat), .slice na m nc]) :: .tab (.slice na m nc) kExpr m xs V :: .ftab (.slice ta nt tc) kToken nt ts (tokV toks) :: L) → at' ≤ a9 → a9 ≤ nt → LineR cc H0 L cb ta tc nt at' ts toks (.bool false) H9 :=
          fun q9 h h' => ⟨false, _, _, _, _, _, _, rfl, q9, h, h', fun h => by cases h⟩
        have q2 := q1.front 3 [0, 2, 1] (by decide) rfl
        simp only [List.filterMap_cons, List.filterMap_nil, List.getElem?_cons_zero, List.getElem?_cons_succ, List.drop_succ_cons, List.drop_zero, List.cons_append, List.nil_append] at q2
        refine (io q2 hl h3 h4 (by omega) hT).mono ?_
        rintro _ H3 ⟨ok, a2, la, lc, k, ys, W, rfl, q3, l1, l2, l3⟩
        cases ok with
        | false =>
          simp -implicitDefEqProofs only [kz, kk0, kk1, kk2, kk3, ↓two_true, ↓two_false, mkv, aggAt, Nat.reduceLeDiff, Nat.reduceSub, Nat.reduceMul, implies_true, Nat.reduceEqDiff, reduceIte, Nat.reduceAdd, Nat.reduceBEq, reduceCtorEq, al63, ap37_37, bd77, bd120, bs37_1, fa54_1, fa120_0, fa120_1, fa120_2, ix25, ld3, ld25, ld37, ld63, ln37, st3, st37, st63, Bool.not_false]
          have q4 := (q3.ntab kExpr).front 5 [4, 0, 3] (by decide) rfl
          simp only [List.filterMap_cons, List.filterMap_nil, List.getElem?_cons_zero, List.getElem?_cons_succ, List.drop_succ_cons, List.drop_zero, List.cons_append, List.nil_append] at q4
          exact no q4 (Nat.le_refl _) h4
        | true =>
          obtain ⟨l4, l5, l6⟩ := l3 rfl
          simp -implicitDefEqProofs only [kz, kk0, kk1, kk2, kk3, ↓two_true, ↓two_false, mkv, aggAt, Nat.reduceLeDiff, Nat.reduceSub, Nat.reduceMul, implies_true, Nat.reduceEqDiff, reduceIte, Nat.reduceAdd, Nat.reduceBEq, reduceCtorEq, al63, ap37_37, bd77, bd120, bs37_1, fa54_1, fa120_0, fa120_1, fa120_2, ix25, ld3, ld25, ld37, ld63, ln37, st3, st37, st63, Bool.not_true, q3.rd 0 rfl, q3.rd 3 rfl]
          refine st_set q3 3 rfl fun H4 q4 => ?_
          simp only [List.set_cons_zero, List.set_cons_succ] at q4
          simp -implicitDefEqProofs only [kz, kk0, kk1, kk2, kk3, ↓two_true, ↓two_false, mkv, aggAt, Nat.reduceLeDiff, Nat.reduceSub, Nat.reduceMul, implies_true, Nat.reduceEqDiff, reduceIte, Nat.reduceAdd, Nat.reduceBEq, reduceCtorEq, al63, ap37_37, bd77, bd120, bs37_1, fa54_1, fa120_0, fa120_1, fa120_2, ix25, ld3, ld25, ld37, ld63, ln37, st3, st37, st63, q4.rd 0 rfl, q4.rd 3 rfl]
          have q5 := q4.front 4 [3, 2, 0, 1] (by decide) rfl
          simp only [List.filterMap_cons, List.filterMap_nil, List.getElem?_cons_zero, List.getElem?_cons_succ, List.drop_succ_cons, List.drop_zero, List.cons_append, List.nil_append] at q5
          refine (l9Fun_ok q5 hl h3 l2).mono ?_
          rintro _ H6 ⟨s, o, w, ok1, a3, rfl, q6, m1, m2, m3, m4, -⟩
          simp -implicitDefEqProofs only [kz, kk0, kk1, kk2, kk3, ↓two_true, ↓two_false, mkv, aggAt, Nat.reduceLeDiff, Nat.reduceSub, Nat.reduceMul, implies_true, Nat.reduceEqDiff, reduceIte, Nat.reduceAdd, Nat.reduceBEq, reduceCtorEq, al63, ap37_37, bd77, bd120, bs37_1, fa54_1, fa120_0, fa120_1, fa120_2, ix25, ld3, ld25, ld37, ld63, ln37, st3, st37, st63]
          refine st_box q6 fun H7 q7 => ?_
          simp -implicitDefEqProofs only [kz, kk0, kk1, kk2, kk3, ↓two_true, ↓two_false, mkv, aggAt, Nat.reduceLeDiff, Nat.reduceSub, Nat.reduceMul, implies_true, Nat.reduceEqDiff, reduceIte, Nat.reduceAdd, Nat.reduceBEq, reduceCtorEq, al63, ap37_37, bd77, bd120, bs37_1, fa54_1, fa120_0, fa120_1, fa120_2, ix25, ld3, ld25, ld37, ld63, ln37, st3, st37, st63, q7.rd 0 rfl]
          refine st_set q7 0 rfl fun H8 q8 => ?_
          simp only [List.set_cons_zero, List.set_cons_succ] at q8
          cases ok1 with
          | false =>
            simp -implicitDefEqProofs only [kz, kk0, kk1, kk2, kk3, ↓two_true, ↓two_false, mkv, aggAt, Nat.reduceLeDiff, Nat.reduceSub, Nat.reduceMul, implies_true, Nat.reduceEqDiff, reduceIte, Nat.reduceAdd, Nat.reduceBEq, reduceCtorEq, al63, ap37_37, bd77, bd120, bs37_1, fa54_1, fa120_0, fa120_1, fa120_2, ix25, ld3, ld25, ld37, ld63, ln37, st3, st37, st63, Bool.not_false, q8.rd 0 rfl, q8.rd 1 rfl, q8.rd 3 rfl]
            have q9 := (q8.ntab kExpr).front 6 [2, 0, 5, 3] (by decide) rfl
            simp only [List.filterMap_cons, List.filterMap_nil, List.getElem?_cons_zero, List.getElem?_cons_succ, List.drop_succ_cons, List.drop_zero, List.cons_append, List.nil_append] at q9
            refine (l9Behind_ok q9 (by omega)).mono ?_
            rintro _ Ha ⟨a9, c9, zs, Z, qa, hZ⟩
            simp -implicitDefEqProofs only [kz, kk0, kk1, kk2, kk3, ↓two_true, ↓two_false, mkv, aggAt, Nat.reduceLeDiff, Nat.reduceSub, Nat.reduceMul, implies_true, Nat.reduceEqDiff, reduceIte, Nat.reduceAdd, Nat.reduceBEq, reduceCtorEq, al63, ap37_37, bd77, bd120, bs37_1, fa54_1, fa120_0, fa120_1, fa120_2, ix25, ld3, ld25, ld37, ld63, ln37, st3, st37, st63]
            have qb := qa.front 4 [0, 1, 3] (by decide) rfl
            simp only [List.filterMap_cons, List.filterMap_nil, List.getElem?_cons_zero, List.getElem?_cons_succ, List.drop_succ_cons, List.drop_zero, List.cons_append, List.nil_append] at qb
            simp only [Nat.zero_add] at qb hZ
            refine ⟨true, a3, a9, c9, k, zs, Z, rfl, qb, by omega, m2, fun _ => ⟨by omega, by omega, ?_⟩⟩
            rw [hZ, ndL_zero, List.nil_append]
            exact l6.sh0 (by rw [ndL_len]; omega)
          | true =>
            have hlt := m3 rfl
            simp -implicitDefEqProofs only [kz, kk0, kk1, kk2, kk3, ↓two_true, ↓two_false, mkv, aggAt, Nat.reduceLeDiff, Nat.reduceSub, Nat.reduceMul, implies_true, Nat.reduceEqDiff, reduceIte, Nat.reduceAdd, Nat.reduceBEq, reduceCtorEq, al63, ap37_37, bd77, bd120, bs37_1, fa54_1, fa120_0, fa120_1, fa120_2, ix25, ld3, ld25, ld37, ld63, ln37, st3, st37, st63, Bool.not_true, q8.rd 0 rfl, q8.rd 1 rfl, q8.rd 3 rfl, specFunTwo_eq]
            have q9 := (q8.front 5 [1, 2, 0, 3, 4] (by decide) rfl).extd ⟨jk Try.prog 83 #[.agg #[.int .i64 s, .int .i64 o, .int .i64 w]] H8, rfl⟩
            simp only [List.filterMap_cons, List.filterMap_nil, List.getElem?_cons_zero, List.getElem?_cons_succ, List.drop_succ_cons, List.drop_zero, List.cons_append, List.nil_append] at q9
            cases hf : funTwo s o w with
            | false =>
              simp -implicitDefEqProofs only [kz, kk0, kk1, kk2, kk3, ↓two_true, ↓two_false, mkv, aggAt, Nat.reduceLeDiff, Nat.reduceSub, Nat.reduceMul, implies_true, Nat.reduceEqDiff, reduceIte, Nat.reduceAdd, Nat.reduceBEq, reduceCtorEq, al63, ap37_37, bd77, bd120, bs37_1, fa54_1, fa120_0, fa120_1, fa120_2, ix25, ld3, ld25, ld37, ld63, ln37, st3, st37, st63, hf, Bool.not_false]
              have qa := (q9.ntab kExpr).front 6 [1, 0, 2] (by decide) rfl
              simp only [List.filterMap_cons, List.filterMap_nil, List.getElem?_cons_zero, List.getElem?_cons_succ, List.drop_succ_cons, List.drop_zero, List.cons_append, List.nil_append] at qa
              exact no qa (by omega) m2
            | true =>
              simp -implicitDefEqProofs only [kz, kk0, kk1, kk2, kk3, ↓two_true, ↓two_false, mkv, aggAt, Nat.reduceLeDiff, Nat.reduceSub, Nat.reduceMul, implies_true, Nat.reduceEqDiff, reduceIte, Nat.reduceAdd, Nat.reduceBEq, reduceCtorEq, al63, ap37_37, bd77, bd120, bs37_1, fa54_1, fa120_0, fa120_1, fa120_2, ix25, ld3, ld25, ld37, ld63, ln37, st3, st37, st63, hf, Bool.not_true]
              refine (ih q9 hl h3 m2 (by omega) hT).mono ?_
              rintro _ Ha ⟨ok, a4, na, nc, m, xs, R, rfl, qa, n1, n2, n3⟩
              cases ok with
              | false =>
                simp -implicitDefEqProofs only [kz, kk0, kk1, kk2, kk3, ↓two_true, ↓two_false, mkv, aggAt, Nat.reduceLeDiff, Nat.reduceSub, Nat.reduceMul, implies_true, Nat.reduceEqDiff, reduceIte, Nat.reduceAdd, Nat.reduceBEq, reduceCtorEq, al63, ap37_37, bd77, bd120, bs37_1, fa54_1, fa120_0, fa120_1, fa120_2, ix25, ld3, ld25, ld37, ld63, ln37, st3, st37, st63, Bool.not_false]
                have qb := qa.front 6 [0, 1, 2] (by decide) rfl
                simp only [List.filterMap_cons, List.filterMap_nil, List.getElem?_cons_zero, List.getElem?_cons_succ, List.drop_succ_cons, List.drop_zero, List.cons_append, List.nil_append] at qb
                exact no qb (by omega) n2
              | true =>
                obtain ⟨n4, n5, n6⟩ := n3 rfl
                have wm : IntKind.i64.wrap ((m : Int) - 1) = (m : Int) - 1 := IntWalk.i64_in _ (by omega)
                simp -implicitDefEqProofs only [kz, kk0, kk1, kk2, kk3, ↓two_true, ↓two_false, mkv, aggAt, Nat.reduceLeDiff, Nat.reduceSub, Nat.reduceMul, implies_true, Nat.reduceEqDiff, reduceIte, Nat.reduceAdd, Nat.reduceBEq, reduceCtorEq, al63, ap37_37, bd77, bd120, bs37_1, fa54_1, fa120_0, fa120_1, fa120_2, ix25, ld3, ld25, ld37, ld63, ln37, st3, st37, st63, qa.rd 0 rfl, qa.rd 3 rfl, qa.rd 4 rfl, Bool.not_true, wm]
                have qb := qa.front 6 [0, 1, 5, 2, 3] (by decide) rfl
                simp only [List.filterMap_cons, List.filterMap_nil, List.getElem?_cons_zero, List.getElem?_cons_succ, List.drop_succ_cons, List.drop_zero, List.cons_append, List.nil_append] at qb
                refine (l9Behind_ok qb (by omega)).mono ?_
                rintro _ Hc ⟨a9, c9, zs, Z, qc, hZ⟩
                have hV := qc.tlen 1 rfl
                have wk : IntKind.i64.wrap (((m + k : Nat) : Int) - 1) = ((m + k : Nat) : Int) - 1 := IntWalk.i64_in _ (by omega)
                simp -implicitDefEqProofs only [kz, kk0, kk1, kk2, kk3, ↓two_true, ↓two_false, mkv, aggAt, Nat.reduceLeDiff, Nat.reduceSub, Nat.reduceMul, implies_true, Nat.reduceEqDiff, reduceIte, Nat.reduceAdd, Nat.reduceBEq, reduceCtorEq, al63, ap37_37, bd77, bd120, bs37_1, fa54_1, fa120_0, fa120_1, fa120_2, ix25, ld3, ld25, ld37, ld63, ln37, st3, st37, st63, qc.rd 0 rfl, qc.rd 4 rfl, wk]
                refine st_cells qc fun Hd qd => ?_
                simp -implicitDefEqProofs only [kz, kk0, kk1, kk2, kk3, ↓two_true, ↓two_false, mkv, aggAt, Nat.reduceLeDiff, Nat.reduceSub, Nat.reduceMul, implies_true, Nat.reduceEqDiff, reduceIte, Nat.reduceAdd, Nat.reduceBEq, reduceCtorEq, al63, ap37_37, bd77, bd120, bs37_1, fa54_1, fa120_0, fa120_1, fa120_2, ix25, ld3, ld25, ld37, ld63, ln37, st3, st37, st63, qd.rd 0 rfl, qd.rd 1 rfl, qd.rd 5 rfl, wk]
                refine st_app7 qd 2 0 rfl rfl (fun B h => nilRow) (by omega) fun a7 c7 He us qe => ?_
                simp only [List.set_cons_zero, List.set_cons_succ] at qe
                simp -implicitDefEqProofs only [kz, kk0, kk1, kk2, kk3, ↓two_true, ↓two_false, mkv, aggAt, Nat.reduceLeDiff, Nat.reduceSub, Nat.reduceMul, implies_true, Nat.reduceEqDiff, reduceIte, Nat.reduceAdd, Nat.reduceBEq, reduceCtorEq, al63, ap37_37, bd77, bd120, bs37_1, fa54_1, fa120_0, fa120_1, fa120_2, ix25, ld3, ld25, ld37, ld63, ln37, st3, st37, st63, qe.rd 1 rfl, qe.rd 5 rfl, wk]
                refine st_set qe 1 rfl fun Hf qf => ?_
                simp only [List.set_cons_zero, List.set_cons_succ] at qf
                simp -implicitDefEqProofs only [kz, kk0, kk1, kk2, kk3, ↓two_true, ↓two_false, mkv, aggAt, Nat.reduceLeDiff, Nat.reduceSub, Nat.reduceMul, implies_true, Nat.reduceEqDiff, reduceIte, Nat.reduceAdd, Nat.reduceBEq, reduceCtorEq, al63, ap37_37, bd77, bd120, bs37_1, fa54_1, fa120_0, fa120_1, fa120_2, ix25, ld3, ld25, ld37, ld63, ln37, st3, st37, st63, qf.rd 1 rfl]
                have qg := qf.front 6 [1, 2, 4] (by decide) rfl
                simp only [List.filterMap_cons, List.filterMap_nil, List.getElem?_cons_zero, List.getElem?_cons_succ, List.drop_succ_cons, List.drop_zero, List.cons_append, List.nil_append] at qg
                refine ⟨true, a4, a7, c7, m + k + 1, us, _, rfl, qg, by omega, n2, fun _ => ⟨by omega, by omega, ?_⟩⟩
                rw [ndL_snoc hV rfl, hZ]
                have hm : (ndL R m).length = m := ndL_len
                have hk : (ndL W k).length = k := ndL_len
                have hb := n6.bin l6 (x := ndOf [.i 5, .i (((m + k : Nat) : Int) - 1), .i ((m : Int) - 1), .i s, .i o, .i w, .r []]) (by simp [ndOf, ndOk, hf]) rfl (by rw [hm, hk]; show ((m + k : Nat) : Int) - 1 = _; omega) (by rw [hm]; rfl) (by omega) (by omega)
                rw [hm] at hb
                exact hb
theorem l9Line_all {N : Nat} : LineC Try.prog 107 N := by
  induction N with
  | zero => intro cc H0 H L cb ta tc nt at' ts toks q hl h3 h4 hN; omega
  | succ N ih => exact l9Line_step ih (l9Operand_step ih)

theorem LX.newF {c0 : Option Nat} {H0 H H' : AH} {L : List Ix} {v : Value} {ks : List CK} {n : Nat} {ys : List Value} {V : List CV} (h : LX c0 H0 H L) (hv : New H H' v ks n ys) (hV : cvs H' ys = V) (hf : ∃ K, H' = H ++ K) : LX c0 H0 H' (.ftab v ks n ys V :: L) := by
  obtain ⟨B, h⟩ := h
  obtain ⟨K, rfl⟩ := hf
  have : LX c0 H0 (H ++ K) (.own (.cmp (.row v ks n ys) V) :: L) :=
    ⟨B, h.add (by simp) (fun b hb _ => List.getElem?_append_left hb) (fun g e => (h.cur g e).mono) ⟨hv.ot, hV⟩ fun b hb => hv.fr b hb⟩
  exact this.fzc 0 rfl

theorem tok_agg {H : AH} {b o nt : Nat} {ts : List Value} {toks : List (Int × Int)} (f : FRow H (.slice (some ⟨b, o, none⟩) nt 2) kToken nt ts) (hV : cvs H ts = tokV toks) (hl : toks.length = nt) {i : Nat} (hi : i < nt) :
    ∃ cs, rd H b = some cs ∧ ld Try.prog 54 (o + i * 2) cs = some (.agg #[.int .i64 (tkK toks i), .int .i64 (tkV toks i)]) := by
  obtain ⟨a, c, e, gv⟩ := f.opn 2 rfl
  simp only [Value.slice.injEq, true_and] at e
  obtain ⟨rfl, rfl⟩ := e
  obtain ⟨b', o', cs, e, -, hrd, hle, hcell⟩ := gv (by omega)
  simp only [Option.some.injEq, Addr.mk.injEq] at e
  obtain ⟨rfl, rfl, -⟩ := e
  have x1 := f.elemn 2 rfl hi
  have em : (elm 2 ts i).map (cv H) = [.i (tkK toks i), .i (tkV toks i)] := by
    have e := tokV_get (l := toks) (i := i) (by omega)
    rw [← hV] at e
    simpa [elm, cvs] using e
  have l1 : ld Try.prog 54 (o + i * 2) cs = some (.agg (elm 2 ts i).toArray) := by rw [ld54]; exact (hcell i hi).1
  generalize elm 2 ts i = ex at *
  obtain ⟨_, _, rfl, ⟨p1, rfl⟩, _, _, rfl, ⟨p2, rfl⟩, rfl⟩ := x1
  simp only [List.map_cons, List.map_nil, cv_int, List.cons.injEq, CV.i.injEq, and_true] at em
  obtain ⟨rfl, rfl⟩ := em
  exact ⟨cs, hrd, l1⟩
set_option maxHeartbeats 4000000 in
theorem l8Tokens_ok {H : AH} {ta : Option Addr} {tc nt : Nat} {ts : List Value} {toks : List (Int × Int)} (f : FRow H (.slice ta nt tc) kToken nt ts) (hV : cvs H ts = tokV toks) (hl : toks.length = nt) (hn : nt ≤ 1048576) :
    CallsA Try.prog 106 #[.slice ta nt tc] H fun r H' => r = .bool ((toks.all fun t => tokOk t.1 t.2) && decide (nt ≤ 300)) ∧ ∃ K, H' = H ++ K := by
  refine w106 ?_
  unfold k106
  simp -implicitDefEqProofs only [kz, kk0, kk1, kk2, kk3, ↓two_true, ↓two_false, oS_some, oM_some, mkv, aggAt, Nat.reduceLeDiff, Nat.reduceSub, Nat.reduceMul, implies_true, Nat.reduceEqDiff, reduceIte, Nat.reduceAdd, Nat.reduceBEq, reduceCtorEq, ix25, ld54, ln25]
  refine rW_loop (σ := Nat) (fun i tm H' => tm 0 = .slice ta nt tc ∧ tm 3 = .int .i64 i ∧ i ≤ nt ∧ (∃ K, H' = H ++ K) ∧ ((toks.take i).all fun t => tokOk t.1 t.2) = true) (fun i => nt - i) 0 ?_ ?_
  · exact ⟨rfl, rfl, Nat.zero_le _, ⟨[], (List.append_nil _).symm⟩, rfl⟩
  · rintro i tm H1 ⟨h0, h3, hi, ⟨K, rfl⟩, hA⟩
    simp -implicitDefEqProofs only [kz, kk0, kk1, kk2, kk3, ↓two_true, ↓two_false, oS_some, oM_some, mkv, aggAt, Nat.reduceLeDiff, Nat.reduceSub, Nat.reduceMul, implies_true, Nat.reduceEqDiff, reduceIte, Nat.reduceAdd, Nat.reduceBEq, reduceCtorEq, ix25, ld54, ln25, h0, h3]
    refine two_intro (fun u => ?_) (fun u => ?_)
    · have hlt : i < nt := by have := of_decide_eq_true u; omega
      obtain ⟨b, o, cs, rfl, rfl, -, -, -⟩ := tok_at f hV hl hlt
      obtain ⟨cs1, hrd1, l1⟩ := tok_agg (f.mono (L := K)) (by rw [f.vals]; exact hV) hl hlt
      have g1 : (0 : Int) ≤ (i : Int) ∧ (i : Int) < (nt : Int) := by omega
      have wi : IntKind.i64.wrap ((i : Int) + 1) = ((i + 1 : Nat) : Int) := IntWalk.i64_in ((i : Int) + 1) (by omega)
      simp -implicitDefEqProofs only [kz, kk0, kk1, kk2, kk3, ↓two_true, ↓two_false, oS_some, oM_some, mkv, aggAt, Nat.reduceLeDiff, Nat.reduceSub, Nat.reduceMul, implies_true, Nat.reduceEqDiff, reduceIte, Nat.reduceAdd, Nat.reduceBEq, reduceCtorEq, ix25, ld54, ln25, h0, h3, if_pos g1, Int.toNat_natCast, hrd1, l1]
      refine (specTokenOk_ok _ _ _).mono ?_
      rintro _ H2 ⟨rfl, K2, rfl⟩
      have hti : i < toks.length := by omega
      have e1 : toks[i] = (tkK toks i, tkV toks i) := by
        unfold tkK tkV
        rw [List.getElem?_eq_getElem hti]
      simp -implicitDefEqProofs only [kz, kk0, kk1, kk2, kk3, ↓two_true, ↓two_false, oS_some, oM_some, mkv, aggAt, Nat.reduceLeDiff, Nat.reduceSub, Nat.reduceMul, implies_true, Nat.reduceEqDiff, reduceIte, Nat.reduceAdd, Nat.reduceBEq, reduceCtorEq, ix25, ld54, ln25, h0, h3, wi]
      refine two_intro (fun v => ?_) (fun v => ?_)
      · have hv : tokOk (tkK toks i) (tkV toks i) = false := by simpa using v
        have : (toks.all fun t => tokOk t.1 t.2) = false := by
          rw [Bool.eq_false_iff]
          intro h
          have := List.all_eq_true.1 h _ (List.getElem_mem hti)
          rw [e1, hv] at this
          cases this
        rw [this]
        exact ⟨rfl, ⟨K ++ K2, by simp⟩⟩
      · have hv : tokOk (tkK toks i) (tkV toks i) = true := by simpa using v
        try simp -implicitDefEqProofs only [kz, kk0, kk1, kk2, kk3, ↓two_true, ↓two_false, oS_some, oM_some, mkv, aggAt, Nat.reduceLeDiff, Nat.reduceSub, Nat.reduceMul, implies_true, Nat.reduceEqDiff, reduceIte, Nat.reduceAdd, Nat.reduceBEq, reduceCtorEq, ix25, ld54, ln25, h0, h3, wi]
        refine ⟨i + 1, by omega, ?_⟩
        have hA2 : ((toks.take (i + 1)).all fun t => tokOk t.1 t.2) = true := by
          rw [List.take_succ_eq_append_getElem hti, List.all_append, hA, e1]
          simp [hv]
        first | exact ⟨rfl, hlt, ⟨K ++ K2, by simp⟩, hA2⟩ | exact ⟨hlt, ⟨K ++ K2, by simp⟩, hA2⟩
    · have hge : i = nt := by have := of_decide_eq_false u; omega
      try simp -implicitDefEqProofs only [kz, kk0, kk1, kk2, kk3, ↓two_true, ↓two_false, oS_some, oM_some, mkv, aggAt, Nat.reduceLeDiff, Nat.reduceSub, Nat.reduceMul, implies_true, Nat.reduceEqDiff, reduceIte, Nat.reduceAdd, Nat.reduceBEq, reduceCtorEq, ix25, ld54, ln25, h0, h3]
      rw [List.take_of_length_le (by omega)] at hA
      rw [hA, Bool.true_and]
      refine ⟨?_, K, rfl⟩
      congr 2
      simp only [eq_iff_iff]
      omega

set_option maxHeartbeats 4000000 in
theorem parse_ok {c0 : Option Nat} {H0 H : AH} {L : List Ix} {ta : Option Addr} {tc nt : Nat} {ts : List Value} {toks : List (Int × Int)} (q : LX c0 H0 H (.ftab (.slice ta nt tc) kToken nt ts (tokV toks) :: L)) (hl : toks.length = nt) (hn : nt ≤ 1048576) :
    CallsA Try.prog 96 #[.slice ta nt tc] H fun r H' => ∃ (na : Option Addr) (m nc : Nat) (xs : List Value) (V : List CV) (code : Int), r = .tuple #[.agg #[.slice na m nc], .int .i64 code] ∧ LX c0 H0 H' (.tab (.slice na m nc) kExpr m xs V :: L) ∧ (code = 0 → m ≤ 60 ∧ PT (ndL V m)) := by
  refine w96 ?_
  unfold k96
  simp -implicitDefEqProofs only [kz, kk0, kk1, kk2, kk3, ↓two_true, ↓two_false, mkv, aggAt, Nat.reduceLeDiff, Nat.reduceSub, Nat.reduceMul, implies_true, Nat.reduceEqDiff, reduceIte, Nat.reduceAdd, Nat.reduceBEq, reduceCtorEq, al39, bd39, bd120, fa120_1, fa120_2, ld3, ld37, ld39, ln25, ln37, st39]
  refine st_box q fun H1 q1 => ?_
  simp -implicitDefEqProofs only [kz, kk0, kk1, kk2, kk3, ↓two_true, ↓two_false, mkv, aggAt, Nat.reduceLeDiff, Nat.reduceSub, Nat.reduceMul, implies_true, Nat.reduceEqDiff, reduceIte, Nat.reduceAdd, Nat.reduceBEq, reduceCtorEq, al39, bd39, bd120, fa120_1, fa120_2, ld3, ld37, ld39, ln25, ln37, st39, q1.rd 0 rfl]
  refine st_box q1 fun H2 q2 => ?_
  simp -implicitDefEqProofs only [kz, kk0, kk1, kk2, kk3, ↓two_true, ↓two_false, mkv, aggAt, Nat.reduceLeDiff, Nat.reduceSub, Nat.reduceMul, implies_true, Nat.reduceEqDiff, reduceIte, Nat.reduceAdd, Nat.reduceBEq, reduceCtorEq, al39, bd39, bd120, fa120_1, fa120_2, ld3, ld37, ld39, ln25, ln37, st39, q2.rd 0 rfl]
  refine st_set q2 0 rfl fun H3 q3 => ?_
  simp only [List.set_cons_zero, List.set_cons_succ] at q3
  simp -implicitDefEqProofs only [kz, kk0, kk1, kk2, kk3, ↓two_true, ↓two_false, mkv, aggAt, Nat.reduceLeDiff, Nat.reduceSub, Nat.reduceMul, implies_true, Nat.reduceEqDiff, reduceIte, Nat.reduceAdd, Nat.reduceBEq, reduceCtorEq, al39, bd39, bd120, fa120_1, fa120_2, ld3, ld37, ld39, ln25, ln37, st39, q3.rd 0 rfl]
  refine (l8Tokens_ok (q3.ft 2 rfl).1 (q3.ft 2 rfl).2 hl hn).mono ?_
  rintro _ H4 ⟨rfl, hK4⟩
  have q4 := q3.extd hK4
  simp -implicitDefEqProofs only [kz, kk0, kk1, kk2, kk3, ↓two_true, ↓two_false, mkv, aggAt, Nat.reduceLeDiff, Nat.reduceSub, Nat.reduceMul, implies_true, Nat.reduceEqDiff, reduceIte, Nat.reduceAdd, Nat.reduceBEq, reduceCtorEq, al39, bd39, bd120, fa120_1, fa120_2, ld3, ld37, ld39, ln25, ln37, st39]
  have done : ∀ {H9 : AH} {L' : List Ix} {m nc : Nat} {na : Option Addr} {xs : List Value} {V : List CV} (c : Int), LX c0 H0 H9 (.tab (.slice na m nc) kExpr m xs V :: L) → (c = 0 → m ≤ 60 ∧ PT (ndL V m)) → True := fun _ _ _ => trivial
  cases hT : ((toks.all fun t => tokOk t.1 t.2) && decide (nt ≤ 300)) with
  | false =>
    simp -implicitDefEqProofs only [kz, kk0, kk1, kk2, kk3, ↓two_true, ↓two_false, mkv, aggAt, Nat.reduceLeDiff, Nat.reduceSub, Nat.reduceMul, implies_true, Nat.reduceEqDiff, reduceIte, Nat.reduceAdd, Nat.reduceBEq, reduceCtorEq, al39, bd39, bd120, fa120_1, fa120_2, ld3, ld37, ld39, ln25, ln37, st39, Bool.not_false, q4.rd 0 rfl, q4.rd 1 rfl]
    refine st_set q4 1 rfl fun H5 q5 => ?_
    simp only [List.set_cons_zero, List.set_cons_succ] at q5
    simp -implicitDefEqProofs only [kz, kk0, kk1, kk2, kk3, ↓two_true, ↓two_false, mkv, aggAt, Nat.reduceLeDiff, Nat.reduceSub, Nat.reduceMul, implies_true, Nat.reduceEqDiff, reduceIte, Nat.reduceAdd, Nat.reduceBEq, reduceCtorEq, al39, bd39, bd120, fa120_1, fa120_2, ld3, ld37, ld39, ln25, ln37, st39, q5.rd 0 rfl, q5.rd 1 rfl]
    have q6 := (q5.ntab kExpr).front 4 [0] (by decide) rfl
    simp only [List.filterMap_cons, List.filterMap_nil, List.getElem?_cons_zero, List.getElem?_cons_succ, List.drop_succ_cons, List.drop_zero, List.cons_append, List.nil_append] at q6
    exact ⟨none, 0, 0, [], [], 1, rfl, q6, fun h => by cases h⟩
  | true =>
    simp only [Bool.and_eq_true, decide_eq_true_eq] at hT
    obtain ⟨hT, h3⟩ := hT
    simp -implicitDefEqProofs only [kz, kk0, kk1, kk2, kk3, ↓two_true, ↓two_false, mkv, aggAt, Nat.reduceLeDiff, Nat.reduceSub, Nat.reduceMul, implies_true, Nat.reduceEqDiff, reduceIte, Nat.reduceAdd, Nat.reduceBEq, reduceCtorEq, al39, bd39, bd120, fa120_1, fa120_2, ld3, ld37, ld39, ln25, ln37, st39, Bool.not_true]
    refine st_box q4 fun H5 q5 => ?_
    simp -implicitDefEqProofs only [kz, kk0, kk1, kk2, kk3, ↓two_true, ↓two_false, mkv, aggAt, Nat.reduceLeDiff, Nat.reduceSub, Nat.reduceMul, implies_true, Nat.reduceEqDiff, reduceIte, Nat.reduceAdd, Nat.reduceBEq, reduceCtorEq, al39, bd39, bd120, fa120_1, fa120_2, ld3, ld37, ld39, ln25, ln37, st39, q5.rd 0 rfl]
    have q6 := q5.front 4 [0, 3, 1, 2] (by decide) rfl
    simp only [List.filterMap_cons, List.filterMap_nil, List.getElem?_cons_zero, List.getElem?_cons_succ, List.drop_succ_cons, List.drop_zero, List.cons_append, List.nil_append] at q6
    refine (l9Line_all (N := 301) (at' := 0) q6 hl h3 (Nat.zero_le _) (by omega) hT).mono ?_
    rintro _ H7 ⟨ok, a2, na, nc, m, xs, V, rfl, q7, l1, l2, l3⟩
    have fail : ∀ (code : Int) (tm : Tm), True := fun _ _ => trivial
    cases ok with
    | false =>
      simp -implicitDefEqProofs only [kz, kk0, kk1, kk2, kk3, ↓two_true, ↓two_false, mkv, aggAt, Nat.reduceLeDiff, Nat.reduceSub, Nat.reduceMul, implies_true, Nat.reduceEqDiff, reduceIte, Nat.reduceAdd, Nat.reduceBEq, reduceCtorEq, al39, bd39, bd120, fa120_1, fa120_2, ld3, ld37, ld39, ln25, ln37, st39, Bool.not_false, q7.rd 3 rfl, q7.rd 4 rfl]
      refine st_set q7 4 rfl fun H8 q8 => ?_
      simp only [List.set_cons_zero, List.set_cons_succ] at q8
      simp -implicitDefEqProofs only [kz, kk0, kk1, kk2, kk3, ↓two_true, ↓two_false, mkv, aggAt, Nat.reduceLeDiff, Nat.reduceSub, Nat.reduceMul, implies_true, Nat.reduceEqDiff, reduceIte, Nat.reduceAdd, Nat.reduceBEq, reduceCtorEq, al39, bd39, bd120, fa120_1, fa120_2, ld3, ld37, ld39, ln25, ln37, st39, q8.rd 4 rfl]
      have q9 := (q8.ntab kExpr).front 6 [0] (by decide) rfl
      simp only [List.filterMap_cons, List.filterMap_nil, List.getElem?_cons_zero, List.getElem?_cons_succ, List.drop_succ_cons, List.drop_zero, List.cons_append, List.nil_append] at q9
      exact ⟨none, 0, 0, [], [], 8, rfl, q9, fun h => by cases h⟩
    | true =>
      obtain ⟨l4, l5, l6⟩ := l3 rfl
      simp -implicitDefEqProofs only [kz, kk0, kk1, kk2, kk3, ↓two_true, ↓two_false, mkv, aggAt, Nat.reduceLeDiff, Nat.reduceSub, Nat.reduceMul, implies_true, Nat.reduceEqDiff, reduceIte, Nat.reduceAdd, Nat.reduceBEq, reduceCtorEq, al39, bd39, bd120, fa120_1, fa120_2, ld3, ld37, ld39, ln25, ln37, st39, Bool.not_true, q7.rd 0 rfl, q7.rd 3 rfl, q7.rd 4 rfl]
      refine two_intro (fun u => ?_) (fun u => two_intro (fun v => ?_) (fun v => ?_))
      · refine st_set q7 4 rfl fun H8 q8 => ?_
        simp only [List.set_cons_zero, List.set_cons_succ] at q8
        simp -implicitDefEqProofs only [kz, kk0, kk1, kk2, kk3, ↓two_true, ↓two_false, mkv, aggAt, Nat.reduceLeDiff, Nat.reduceSub, Nat.reduceMul, implies_true, Nat.reduceEqDiff, reduceIte, Nat.reduceAdd, Nat.reduceBEq, reduceCtorEq, al39, bd39, bd120, fa120_1, fa120_2, ld3, ld37, ld39, ln25, ln37, st39, q8.rd 4 rfl]
        have q9 := (q8.ntab kExpr).front 6 [0] (by decide) rfl
        simp only [List.filterMap_cons, List.filterMap_nil, List.getElem?_cons_zero, List.getElem?_cons_succ, List.drop_succ_cons, List.drop_zero, List.cons_append, List.nil_append] at q9
        exact ⟨none, 0, 0, [], [], 8, rfl, q9, fun h => by cases h⟩
      · refine st_set q7 4 rfl fun H8 q8 => ?_
        simp only [List.set_cons_zero, List.set_cons_succ] at q8
        simp -implicitDefEqProofs only [kz, kk0, kk1, kk2, kk3, ↓two_true, ↓two_false, mkv, aggAt, Nat.reduceLeDiff, Nat.reduceSub, Nat.reduceMul, implies_true, Nat.reduceEqDiff, reduceIte, Nat.reduceAdd, Nat.reduceBEq, reduceCtorEq, al39, bd39, bd120, fa120_1, fa120_2, ld3, ld37, ld39, ln25, ln37, st39, q8.rd 4 rfl]
        have q9 := (q8.ntab kExpr).front 6 [0] (by decide) rfl
        simp only [List.filterMap_cons, List.filterMap_nil, List.getElem?_cons_zero, List.getElem?_cons_succ, List.drop_succ_cons, List.drop_zero, List.cons_append, List.nil_append] at q9
        exact ⟨none, 0, 0, [], [], 6, rfl, q9, fun h => by cases h⟩
      · have hm : m ≤ 60 := by have := of_decide_eq_false v; omega
        refine st_set q7 4 rfl fun H8 q8 => ?_
        simp only [List.set_cons_zero, List.set_cons_succ] at q8
        simp -implicitDefEqProofs only [kz, kk0, kk1, kk2, kk3, ↓two_true, ↓two_false, mkv, aggAt, Nat.reduceLeDiff, Nat.reduceSub, Nat.reduceMul, implies_true, Nat.reduceEqDiff, reduceIte, Nat.reduceAdd, Nat.reduceBEq, reduceCtorEq, al39, bd39, bd120, fa120_1, fa120_2, ld3, ld37, ld39, ln25, ln37, st39, q8.rd 4 rfl]
        have q9 := q8.front 5 [1] (by decide) rfl
        simp only [List.filterMap_cons, List.filterMap_nil, List.getElem?_cons_zero, List.getElem?_cons_succ, List.drop_succ_cons, List.drop_zero, List.cons_append, List.nil_append] at q9
        exact ⟨na, m, nc, xs, V, 0, rfl, q9, fun _ => ⟨hm, l6⟩⟩

theorem LX.ncr {cb : Nat} {H0 H : AH} {L : List Ix} {v : Value} {l : List Int} (q : LX (some cb) H0 H L) (i : Nat) (hi : L[i]? = some (.own (.row v l))) : blkOf v ≠ some cb := by
  obtain ⟨B, h⟩ := q
  exact h.nc cb rfl i _ hi
theorem LX.curr {cb : Nat} {H0 H : AH} {L : List Ix} (q : LX (some cb) H0 H L) : Cur H cb := by
  obtain ⟨B, h⟩ := q
  exact h.cur cb rfl
/-- A table of one node. -/
theorem LX.tab1 {c0 : Option Nat} {H0 H : AH} {L : List Ix} {b : Nat} {k a b' s o w : Int} {p : Value} {l : List Int} (q : LX c0 H0 H L) (j : Nat) (hj : L[j]? = some (.own (.box b [.int .i64 k, .int .i64 a, .int .i64 b', .int .i64 s, .int .i64 o, .int .i64 w, p]))) (hp : ∀ B, LB B c0 H0 H L → KOk H .r p ∧ rowI H p = l ∧ ∀ g, blkOf p = some g → B g) :
    LX c0 H0 H (L.set j (.tab (.slice (some ⟨b, 0, none⟩) 1 7) kExpr 1 [.int .i64 k, .int .i64 a, .int .i64 b', .int .i64 s, .int .i64 o, .int .i64 w, p] [.i k, .i a, .i b', .i s, .i o, .i w, .r l])) := by
  obtain ⟨B, h⟩ := q
  obtain ⟨f1, f2, f3⟩ := lit7 h j hj (hp B h)
  have hb : H[b]? = some ⟨[.int .i64 k, .int .i64 a, .int .i64 b', .int .i64 s, .int .i64 o, .int .i64 w, p], .own⟩ := h.ok j _ hj
  refine ⟨B, h.upd j hj (Nat.le_refl _) (fun _ _ _ => rfl) ⟨⟨rfl, .inr ⟨b, 0, _, rfl, hb, by simp [kExpr], fun j y hy => by rw [Nat.zero_add]; exact hy⟩, fun i c kk y hi hk hy => f1.ok i c kk y hi hk hy, f3⟩, f2⟩ fun g hg => .inl ?_⟩
  simp [Ix.bs, It.bs, blkOf] at hg ⊢
  exact hg.symm
theorem LX.tabOp {c0 : Option Nat} {H0 H : AH} {L : List Ix} {na : Option Addr} {n nc : Nat} {xs : List Value} {V : List CV} (q : LX c0 H0 H L) (i : Nat) (hi : L[i]? = some (.tab (.slice na n nc) kExpr n xs V)) (h0 : 0 < n) :
    ∃ b o cs, na = some ⟨b, o, none⟩ ∧ nc = 7 ∧ H[b]? = some ⟨cs, .own⟩ ∧ o + n * 7 ≤ cs.length := by
  obtain ⟨B, h⟩ := q
  rcases (h.ok i _ hi).1.row with ⟨_, e⟩ | ⟨b, o, cs, e, h1, h2, _⟩
  · omega
  · simp only [Value.slice.injEq, true_and] at e
    exact ⟨b, o, cs, e.1, e.2, h1, h2⟩
theorem LX.tabSet {c0 : Option Nat} {H0 H : AH} {L : List Ix} {b o n : Nat} {xs cs : List Value} {V : List CV} (q : LX c0 H0 H L) (i : Nat) (hi : L[i]? = some (.tab (.slice (some ⟨b, o, none⟩) n 7) kExpr n xs V)) (hb : H[b]? = some ⟨cs, .own⟩) (hle : o + n * 7 ≤ cs.length) (cs' : List Value) (hlen : cs'.length = cs.length)
    (hc : ∀ (d c : Nat) y, d < n → c < 7 → cs'[o + d * 7 + c]? = some y → cs[o + d * 7 + c]? = some y ∨ (c < 6 ∧ ∃ x, y = .int .i64 x)) :
    ∃ xs' V', LX c0 H0 (H.set b ⟨cs', .own⟩) (L.set i (.tab (.slice (some ⟨b, o, none⟩) n 7) kExpr n xs' V')) := by
  obtain ⟨B, h⟩ := q
  obtain ⟨t, -⟩ := h.ok i _ hi
  have hBb : ¬ B b := (h.fr i _ hi b rfl).1
  have hs : ∀ g, B g → (H.set b ⟨cs', .own⟩ : AH)[g]? = H[g]? := fun g hg => List.getElem?_set_ne (by rintro rfl; exact hBb hg)
  have hrow : ∀ (j : Nat) y, xs[j]? = some y → cs[o + j]? = some y := by
    rcases t.row with ⟨e, _⟩ | ⟨b2, o2, cs2, e, h1, h2, h3⟩
    · cases e
    · simp only [Value.slice.injEq, Option.some.injEq, Addr.mk.injEq, true_and] at e
      obtain ⟨⟨rfl, rfl, -⟩, -⟩ := e
      rw [hb] at h1
      cases h1
      exact h3
  have hxl : xs.length = n * 7 := t.len
  have old : ∀ (d c : Nat) (kk : CK) y, d < n → kExpr[c]? = some kk → cs'[o + d * 7 + c]? = some y → KOk (H.set b ⟨cs', .own⟩) kk y ∧ ∀ g, blkOf y = some g → B g := by
    intro d c kk y hd hk hy
    have hc7 : c < 7 := by have := (List.getElem?_eq_some_iff.1 hk).1; simpa [kExpr] using this
    rcases hc d c y hd hc7 hy with h1 | ⟨h6, x, rfl⟩
    · have hj : d * 7 + c < xs.length := by omega
      have h2 := hrow (d * 7 + c) _ (List.getElem?_eq_getElem hj)
      rw [← Nat.add_assoc, h1] at h2
      simp only [Option.some.injEq] at h2
      have h3 : xs[d * 7 + c]? = some y := by rw [h2]; exact List.getElem?_eq_getElem hj
      have hbase : ∀ g, blkOf y = some g → B g := fun g hg => t.base y (List.mem_of_getElem? h3) g hg
      exact ⟨(t.cell d c kk y hd hk h3).same fun g hg => get_rd (hs g (hbase g hg)), hbase⟩
    · refine ⟨?_, fun g hg => by simp [blkOf] at hg⟩
      have : kk = .i := by
        have : c = 0 ∨ c = 1 ∨ c = 2 ∨ c = 3 ∨ c = 4 ∨ c = 5 := by omega
        rcases this with rfl | rfl | rfl | rfl | rfl | rfl <;> (simp [kExpr] at hk; exact hk.symm)
      subst this
      exact ⟨x, rfl⟩
  have hget : ∀ (j : Nat) y, ((cs'.drop o).take (n * 7))[j]? = some y → j < n * 7 ∧ cs'[o + j]? = some y := by
    intro j y hy
    have hj : j < n * 7 := by
      have := (List.getElem?_eq_some_iff.1 hy).1
      simp at this; omega
    rw [List.getElem?_take_of_lt hj, List.getElem?_drop] at hy
    exact ⟨hj, hy⟩
  refine ⟨(cs'.drop o).take (n * 7), _, B, h.upd (H' := H.set b ⟨cs', .own⟩) i hi (by simp) (fun g hg hn => List.getElem?_set_ne (by rintro rfl; exact hn rfl)) ⟨⟨?_, .inr ⟨b, o, cs', rfl, set_at hb, ?_, fun j y hy => (hget j y hy).2⟩, ?_, ?_⟩, rfl⟩ fun g hg => .inl hg⟩
  · show _ = n * 7
    simp; omega
  · show o + n * 7 ≤ _
    omega
  · intro d c kk y hd hk hy
    have := (hget _ y hy).2
    rw [show kExpr.length = 7 from rfl, ← Nat.add_assoc] at this
    exact (old d c kk y hd hk this).1
  · intro y hy g hg
    obtain ⟨j, hj⟩ := List.mem_iff_getElem?.1 hy
    obtain ⟨h1, h2⟩ := hget j y hj
    have hd : j / 7 < n := by omega
    have e : o + j / 7 * 7 + j % 7 = o + j := by omega
    have hk : ∃ kk, kExpr[j % 7]? = some kk := ⟨kExpr[j % 7]'(by simp [kExpr]; omega), List.getElem?_eq_getElem _⟩
    obtain ⟨kk, hk⟩ := hk
    exact (old (j / 7) (j % 7) kk y hd hk (by rw [e]; exact h2)).2 g hg
theorem LX.tabTk {c0 : Option Nat} {H0 H : AH} {L : List Ix} {b o n : Nat} {xs : List Value} {V : List CV} (q : LX c0 H0 H L) (i : Nat) (hi : L[i]? = some (.tab (.slice (some ⟨b, o, none⟩) n 7) kExpr n xs V)) (k : Nat) (hk : k ≤ n) :
    ∃ V', LX c0 H0 H (L.set i (.tab (.slice (some ⟨b, o, none⟩) k 7) kExpr k (xs.take (k * 7)) V')) := by
  obtain ⟨B, h⟩ := q
  obtain ⟨t, -⟩ := h.ok i _ hi
  have hxl : xs.length = n * 7 := t.len
  have sub : ∀ (j : Nat) y, (xs.take (k * 7))[j]? = some y → xs[j]? = some y := fun j y hy => by
    have hj : j < k * 7 := by
      have := (List.getElem?_eq_some_iff.1 hy).1
      simp at this; omega
    rw [List.getElem?_take_of_lt hj] at hy
    exact hy
  refine ⟨_, B, h.upd i hi (Nat.le_refl _) (fun _ _ _ => rfl) ⟨⟨?_, ?_, ?_, ?_⟩, rfl⟩ fun g hg => .inl hg⟩
  · show _ = k * 7
    simp; omega
  · rcases t.row with ⟨e, _⟩ | ⟨b2, o2, cs2, e, h1, h2, h3⟩
    · cases e
    · simp only [Value.slice.injEq, Option.some.injEq, Addr.mk.injEq, true_and] at e
      obtain ⟨⟨rfl, rfl, -⟩, -⟩ := e
      refine .inr ⟨b, o, cs2, rfl, h1, ?_, fun j y hy => h3 j y (sub j y hy)⟩
      have h2 : o + n * 7 ≤ cs2.length := h2
      show o + k * 7 ≤ _
      omega
  · intro d c kk y hd hk2 hy
    exact t.cell d c kk y (by omega) hk2 (sub _ y hy)
  · intro y hy
    exact t.base y (List.mem_of_mem_take hy)

end Go.Proofs.Ytdagncfnkenbfaa.AM
