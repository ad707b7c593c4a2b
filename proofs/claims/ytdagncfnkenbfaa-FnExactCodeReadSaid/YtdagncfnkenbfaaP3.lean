/- What the functions answer, part 3. -/
import Derived.Test.YtdagncfnkenbfaaP2
set_option linter.unusedVariables false
set_option linter.unusedSimpArgs false
set_option linter.defProp false
set_option maxRecDepth 100000
/- What the functions answer, part 3. -/
namespace Go.Proofs.Ytdagncfnkenbfaa.AM
open Go Go.Proofs.Ytdagncfnkenbfaa Go.Proofs
set_option maxHeartbeats 4000000 in
theorem l11Read_ok {H : AH} {v : Value} {l : List Int} {p : Nat} (hv : ByRow H v l) (hy : byOk l) (hl : l.length ≤ 1048576) (hp : p ≤ l.length) :
    CallsA Try.prog 41 #[v, .int .i64 p] H fun r H' => ∃ op a s o w pv nums nx, r = .tuple #[.agg #[.int .i64 op, .int .i64 a, .int .i64 s, .int .i64 o, .int .i64 w, pv], .int .i64 nx] ∧ LD none H H' [.row pv nums] ∧ nums.length ≤ 65535 ∧
      match rdIns nfS (l.drop p) with
      | none => nx = -1
      | some z => z.1 = [.i op, .i a, .i s, .i o, .i w, .r nums] ∧ ∃ q : Nat, nx = q ∧ q ≤ l.length ∧ z.2 = l.drop q := by
  have q := (LX.nil (H := H))
  obtain ⟨va, vc, rfl, gv⟩ := hv.op
  have w0 : IntKind.i64.wrap ((l.length : Int) - (p : Int)) = (l.length : Int) - (p : Int) := IntWalk.i64_in _ (by omega)
  refine w41 ?_
  unfold k41
  simp -implicitDefEqProofs only [kz, kk0, kk1, kk2, kk3, ↓two_true, ↓two_false, mkv, aggAt, Nat.reduceLeDiff, Nat.reduceSub, Nat.reduceMul, implies_true, Nat.reduceEqDiff, reduceIte, Nat.reduceAdd, Nat.reduceBEq, reduceCtorEq, al66, ap64_64, bd63, bd66, bs64_1, cv5_3, fa66_0, fa66_3, ix22, ld3, ld5, ld64, ld66, ln22, st64, st66, w0]
  refine st_box q fun H1 q1 => ?_
  simp -implicitDefEqProofs only [kz, kk0, kk1, kk2, kk3, ↓two_true, ↓two_false, mkv, aggAt, Nat.reduceLeDiff, Nat.reduceSub, Nat.reduceMul, implies_true, Nat.reduceEqDiff, reduceIte, Nat.reduceAdd, Nat.reduceBEq, reduceCtorEq, al66, ap64_64, bd63, bd66, bs64_1, cv5_3, fa66_0, fa66_3, ix22, ld3, ld5, ld64, ld66, ln22, st64, st66, w0, q1.rd 0 rfl]
  refine two_intro (fun u1 => ?_) (fun u1 => ?_)
  · have h5 : (l.drop p).length < 5 := by have := of_decide_eq_true u1; simp; omega
    have hn : rdIns nfS (l.drop p) = none := by unfold rdIns; rw [if_pos h5]
    rw [hn]
    try simp -implicitDefEqProofs only [kz, kk0, kk1, kk2, kk3, ↓two_true, ↓two_false, mkv, aggAt, Nat.reduceLeDiff, Nat.reduceSub, Nat.reduceMul, implies_true, Nat.reduceEqDiff, reduceIte, Nat.reduceAdd, Nat.reduceBEq, reduceCtorEq, al66, ap64_64, bd63, bd66, bs64_1, cv5_3, fa66_0, fa66_3, ix22, ld3, ld5, ld64, ld66, ln22, st64, st66, w0, q1.rd 0 rfl]
    refine st_set q1 0 rfl fun H2 q2 => ?_
    simp only [List.set_cons_zero] at q2
    simp -implicitDefEqProofs only [kz, kk0, kk1, kk2, kk3, ↓two_true, ↓two_false, mkv, aggAt, Nat.reduceLeDiff, Nat.reduceSub, Nat.reduceMul, implies_true, Nat.reduceEqDiff, reduceIte, Nat.reduceAdd, Nat.reduceBEq, reduceCtorEq, al66, ap64_64, bd63, bd66, bs64_1, cv5_3, fa66_0, fa66_3, ix22, ld3, ld5, ld64, ld66, ln22, st64, st66, w0, q2.rd 0 rfl]
    have q3 := q2.nil0
    exact ⟨0, 0, 0, 0, 0, _, [], -1, rfl, q3.give [0] (by decide) [.row _ []] rfl, by simp, rfl⟩
  · have h5 : p + 5 ≤ l.length := by have := of_decide_eq_false u1; omega
    have h5' : ¬ (l.drop p).length < 5 := by simp; omega
    obtain ⟨b, o, cs, rfl, rfl, hrd, hle, hcell⟩ := gv (by omega)
    have hrd1 := rd_ext hrd q1.ext
    have wp : ∀ k : Nat, k ≤ 8 → IntKind.i64.wrap ((p : Int) + (k : Int)) = ((p + k : Nat) : Int) := fun k hk => by rw [IntWalk.i64_in _ (by omega)]; omega
    have wp1 : IntKind.i64.wrap ((p : Int) + 1) = ((p + 1 : Nat) : Int) := wp 1 (by omega)
    have wp2 : IntKind.i64.wrap ((p : Int) + 2) = ((p + 2 : Nat) : Int) := wp 2 (by omega)
    have wp3 : IntKind.i64.wrap ((p : Int) + 3) = ((p + 3 : Nat) : Int) := wp 3 (by omega)
    have wp4 : IntKind.i64.wrap ((p : Int) + 4) = ((p + 4 : Nat) : Int) := wp 4 (by omega)
    have wp5 : IntKind.i64.wrap ((p : Int) + 5) = ((p + 5 : Nat) : Int) := wp 5 (by omega)
    have hin : ∀ k : Nat, k < l.length → (0 : Int) ≤ (k : Int) ∧ (k : Int) < (l.length : Int) := fun k hk => by omega
    have wb : ∀ (k : Nat) (hk : k < l.length), IntKind.i64.wrap l[k] = l[k] := fun k hk => by have := hy _ (List.getElem_mem hk); exact IntWalk.i64_in _ (by omega)
    try simp -implicitDefEqProofs only [kz, kk0, kk1, kk2, kk3, ↓two_true, ↓two_false, mkv, aggAt, Nat.reduceLeDiff, Nat.reduceSub, Nat.reduceMul, implies_true, Nat.reduceEqDiff, reduceIte, Nat.reduceAdd, Nat.reduceBEq, reduceCtorEq, al66, ap64_64, bd63, bd66, bs64_1, cv5_3, fa66_0, fa66_3, ix22, ld3, ld5, ld64, ld66, ln22, st64, st66, w0, q1.rd 0 rfl, hrd1, wp1, wp2, wp3, wp4, wp5, Int.toNat_natCast, Nat.mul_one, if_pos (hin p (by omega)), if_pos (hin (p + 1) (by omega)), if_pos (hin (p + 2) (by omega)), if_pos (hin (p + 3) (by omega)), if_pos (hin (p + 4) (by omega)), hcell p (by omega), hcell (p + 1) (by omega), hcell (p + 2) (by omega), hcell (p + 3) (by omega), hcell (p + 4) (by omega), wb]
    refine st_box q1 fun H2 q2 => ?_
    have hrd2 := rd_ext hrd q2.ext
    simp -implicitDefEqProofs only [kz, kk0, kk1, kk2, kk3, ↓two_true, ↓two_false, mkv, aggAt, Nat.reduceLeDiff, Nat.reduceSub, Nat.reduceMul, implies_true, Nat.reduceEqDiff, reduceIte, Nat.reduceAdd, Nat.reduceBEq, reduceCtorEq, al66, ap64_64, bd63, bd66, bs64_1, cv5_3, fa66_0, fa66_3, ix22, ld3, ld5, ld64, ld66, ln22, st64, st66, w0, q2.rd 0 rfl, q2.rd 1 rfl]
    refine st_set q2 0 rfl fun H3 q3 => ?_
    have hrd3 := rd_ext hrd q3.ext
    simp only [List.set_cons_zero, List.set_cons_succ] at q3
    simp -implicitDefEqProofs only [kz, kk0, kk1, kk2, kk3, ↓two_true, ↓two_false, mkv, aggAt, Nat.reduceLeDiff, Nat.reduceSub, Nat.reduceMul, implies_true, Nat.reduceEqDiff, reduceIte, Nat.reduceAdd, Nat.reduceBEq, reduceCtorEq, al66, ap64_64, bd63, bd66, bs64_1, cv5_3, fa66_0, fa66_3, ix22, ld3, ld5, ld64, ld66, ln22, st64, st66, w0, q3.rd 0 rfl, q3.rd 1 rfl, wp5]
    have gg : ∀ (k : Nat) (hk : k < l.length), (l.drop k).headD 0 = l[k] := fun k hk => by rw [getD_dropH, List.getD_eq_getElem?_getD, List.getElem?_eq_getElem hk]; rfl
    have hI : rdIns nfS (l.drop p) = if l[p] = 1 then (if (l.drop p).length < 7 then none else (rdNums nfS (loF 2 (l.drop (p + 5))).toNat (l.drop (p + 7))).map fun z => ([.i l[p], .i l[p + 1], .i l[p + 2], .i l[p + 3], .i l[p + 4], .r z.1], z.2))
        else some ([.i l[p], .i l[p + 1], .i l[p + 2], .i l[p + 3], .i l[p + 4], .r []], l.drop (p + 5)) := by
      unfold rdIns
      rw [if_neg h5']
      simp only [List.tail_drop, List.drop_drop, gg p (by omega), gg (p + 1) (by omega), gg (p + 1 + 1) (by omega), gg (p + 1 + 1 + 1) (by omega), gg (p + 1 + 1 + 1 + 1) (by omega)]
    refine two_intro (fun u2 => ?_) (fun u2 => ?_)
    · have hop : ¬ l[p] = 1 := by simpa using u2
      rw [if_neg hop] at hI
      rw [hI]
      try simp -implicitDefEqProofs only [kz, kk0, kk1, kk2, kk3, ↓two_true, ↓two_false, mkv, aggAt, Nat.reduceLeDiff, Nat.reduceSub, Nat.reduceMul, implies_true, Nat.reduceEqDiff, reduceIte, Nat.reduceAdd, Nat.reduceBEq, reduceCtorEq, al66, ap64_64, bd63, bd66, bs64_1, cv5_3, fa66_0, fa66_3, ix22, ld3, ld5, ld64, ld66, ln22, st64, st66, w0, q3.rd 0 rfl, q3.rd 1 rfl, wp5]
      refine st_set q3 1 rfl fun H4 q4 => ?_
      simp only [List.set_cons_zero, List.set_cons_succ] at q4
      simp -implicitDefEqProofs only [kz, kk0, kk1, kk2, kk3, ↓two_true, ↓two_false, mkv, aggAt, Nat.reduceLeDiff, Nat.reduceSub, Nat.reduceMul, implies_true, Nat.reduceEqDiff, reduceIte, Nat.reduceAdd, Nat.reduceBEq, reduceCtorEq, al66, ap64_64, bd63, bd66, bs64_1, cv5_3, fa66_0, fa66_3, ix22, ld3, ld5, ld64, ld66, ln22, st64, st66, w0, q4.rd 0 rfl, q4.rd 1 rfl, wp5]
      have q5 := q4.nil0
      exact ⟨_, _, _, _, _, _, [], _, rfl, q5.give [0] (by decide) [.row _ []] rfl, by simp, rfl, p + 5, rfl, by omega, rfl⟩
    · have hop : l[p] = 1 := by simpa using u2
      rw [if_pos hop] at hI
      have w1 : IntKind.i64.wrap ((l.length : Int) - ((p + 5 : Nat) : Int)) = (l.length : Int) - ((p + 5 : Nat) : Int) := IntWalk.i64_in _ (by omega)
      simp -implicitDefEqProofs only [kz, kk0, kk1, kk2, kk3, ↓two_true, ↓two_false, mkv, aggAt, Nat.reduceLeDiff, Nat.reduceSub, Nat.reduceMul, implies_true, Nat.reduceEqDiff, reduceIte, Nat.reduceAdd, Nat.reduceBEq, reduceCtorEq, al66, ap64_64, bd63, bd66, bs64_1, cv5_3, fa66_0, fa66_3, ix22, ld3, ld5, ld64, ld66, ln22, st64, st66, w1, q3.rd 0 rfl, q3.rd 1 rfl]
      refine two_intro (fun u3 => ?_) (fun u3 => ?_)
      · have h7 : (l.drop p).length < 7 := by have := of_decide_eq_true u3; simp; omega
        rw [if_pos h7] at hI
        rw [hI]
        try simp -implicitDefEqProofs only [kz, kk0, kk1, kk2, kk3, ↓two_true, ↓two_false, mkv, aggAt, Nat.reduceLeDiff, Nat.reduceSub, Nat.reduceMul, implies_true, Nat.reduceEqDiff, reduceIte, Nat.reduceAdd, Nat.reduceBEq, reduceCtorEq, al66, ap64_64, bd63, bd66, bs64_1, cv5_3, fa66_0, fa66_3, ix22, ld3, ld5, ld64, ld66, ln22, st64, st66, w0, q3.rd 0 rfl, q3.rd 1 rfl]
        refine st_set q3 1 rfl fun H4 q4 => ?_
        simp only [List.set_cons_zero, List.set_cons_succ] at q4
        simp -implicitDefEqProofs only [kz, kk0, kk1, kk2, kk3, ↓two_true, ↓two_false, mkv, aggAt, Nat.reduceLeDiff, Nat.reduceSub, Nat.reduceMul, implies_true, Nat.reduceEqDiff, reduceIte, Nat.reduceAdd, Nat.reduceBEq, reduceCtorEq, al66, ap64_64, bd63, bd66, bs64_1, cv5_3, fa66_0, fa66_3, ix22, ld3, ld5, ld64, ld66, ln22, st64, st66, w0, q4.rd 0 rfl, q4.rd 1 rfl]
        have q5 := q4.nil0
        exact ⟨0, 0, 0, 0, 0, _, [], -1, rfl, q5.give [0] (by decide) [.row _ []] rfl, by simp, rfl⟩
      · have h7 : p + 7 ≤ l.length := by have := of_decide_eq_false u3; omega
        rw [if_neg (show ¬ (l.drop p).length < 7 by simp; omega)] at hI
        have wp6 : IntKind.i64.wrap (((p + 5 : Nat) : Int) + 1) = ((p + 6 : Nat) : Int) := by rw [IntWalk.i64_in _ (by omega)]; omega
        have wp7 : IntKind.i64.wrap (((p + 5 : Nat) : Int) + 2) = ((p + 7 : Nat) : Int) := by rw [IntWalk.i64_in _ (by omega)]; omega
        have c5 := hy _ (List.getElem_mem (show p + 5 < l.length by omega))
        have c6 := hy _ (List.getElem_mem (show p + 6 < l.length by omega))
        have hlo : loF 2 (l.drop (p + 5)) = l[p + 5] + 256 * l[p + 6] := by
          simp only [loF, List.tail_drop, gg (p + 5) (by omega), gg (p + 5 + 1) (by omega), Int.mul_zero, Int.add_zero]
        obtain ⟨n, hn⟩ : ∃ n : Nat, l[p + 5] + 256 * l[p + 6] = n := ⟨(l[p + 5] + 256 * l[p + 6]).toNat, by omega⟩
        have hn65 : n < 65536 := by omega
        rw [hlo, hn, Int.toNat_natCast] at hI
        have m1 : IntKind.i64.wrap (256 * l[p + 6]) = 256 * l[p + 6] := IntWalk.i64_in _ (by omega)
        have m2 : IntKind.i64.wrap (l[p + 5] + 256 * l[p + 6]) = (n : Int) := by rw [IntWalk.i64_in _ (by omega)]; exact hn
        have m3 : IntKind.i64.wrap ((8 : Int) * (n : Int)) = 8 * (n : Int) := IntWalk.i64_in _ (by omega)
        have w2 : IntKind.i64.wrap ((l.length : Int) - ((p + 7 : Nat) : Int)) = (l.length : Int) - ((p + 7 : Nat) : Int) := IntWalk.i64_in _ (by omega)
        try simp -implicitDefEqProofs only [kz, kk0, kk1, kk2, kk3, ↓two_true, ↓two_false, mkv, aggAt, Nat.reduceLeDiff, Nat.reduceSub, Nat.reduceMul, implies_true, Nat.reduceEqDiff, reduceIte, Nat.reduceAdd, Nat.reduceBEq, reduceCtorEq, al66, ap64_64, bd63, bd66, bs64_1, cv5_3, fa66_0, fa66_3, ix22, ld3, ld5, ld64, ld66, ln22, st64, st66, w0, q3.rd 0 rfl, q3.rd 1 rfl, hrd3, wp6, wp7, m1, m2, m3, w2, Int.toNat_natCast, Nat.mul_one, if_pos (hin (p + 5) (by omega)), if_pos (hin (p + 6) (by omega)), hcell (p + 5) (by omega), hcell (p + 6) (by omega), wb]
        refine ⟨hin (p + 5) (by omega), ?_⟩
        refine two_intro (fun u4 => ?_) (fun u4 => ?_)
        · have h8 : (l.drop (p + 7)).length < 8 * n := by have := of_decide_eq_true u4; simp; omega
          rw [rdNumsS_none h8] at hI
          rw [hI]
          try simp -implicitDefEqProofs only [kz, kk0, kk1, kk2, kk3, ↓two_true, ↓two_false, mkv, aggAt, Nat.reduceLeDiff, Nat.reduceSub, Nat.reduceMul, implies_true, Nat.reduceEqDiff, reduceIte, Nat.reduceAdd, Nat.reduceBEq, reduceCtorEq, al66, ap64_64, bd63, bd66, bs64_1, cv5_3, fa66_0, fa66_3, ix22, ld3, ld5, ld64, ld66, ln22, st64, st66, w0, q3.rd 0 rfl, q3.rd 1 rfl]
          refine st_set q3 1 rfl fun H4 q4 => ?_
          simp only [List.set_cons_zero, List.set_cons_succ] at q4
          simp -implicitDefEqProofs only [kz, kk0, kk1, kk2, kk3, ↓two_true, ↓two_false, mkv, aggAt, Nat.reduceLeDiff, Nat.reduceSub, Nat.reduceMul, implies_true, Nat.reduceEqDiff, reduceIte, Nat.reduceAdd, Nat.reduceBEq, reduceCtorEq, al66, ap64_64, bd63, bd66, bs64_1, cv5_3, fa66_0, fa66_3, ix22, ld3, ld5, ld64, ld66, ln22, st64, st66, w0, q4.rd 0 rfl, q4.rd 1 rfl]
          have q5 := q4.nil0
          exact ⟨0, 0, 0, 0, 0, _, [], -1, rfl, q5.give [0] (by decide) [.row _ []] rfl, by simp, rfl⟩
        · have h8 : p + 7 + 8 * n ≤ l.length := by have := of_decide_eq_false u4; omega
          try simp -implicitDefEqProofs only [kz, kk0, kk1, kk2, kk3, ↓two_true, ↓two_false, mkv, aggAt, Nat.reduceLeDiff, Nat.reduceSub, Nat.reduceMul, implies_true, Nat.reduceEqDiff, reduceIte, Nat.reduceAdd, Nat.reduceBEq, reduceCtorEq, al66, ap64_64, bd63, bd66, bs64_1, cv5_3, fa66_0, fa66_3, ix22, ld3, ld5, ld64, ld66, ln22, st64, st66, w0, q3.rd 0 rfl, q3.rd 1 rfl]
          have q4 := q3.nil0
          rw [hI]
          clear hI hlo q q1 q2 q3
          refine rW_loopQ (σ := Nat × Option Addr × Nat × List Int) q4 [0, 4, 6, 7] (fun x tm => tm 1 = .int .i64 ((p + 7 + 8 * x.1 : Nat) : Int) ∧ tm 8 = .int .i64 x.1 ∧ x.1 ≤ n ∧ x.2.2.2.length = x.1 ∧ rdNums nfS n (l.drop (p + 7)) = (rdNums nfS (n - x.1) (l.drop (p + 7 + 8 * x.1))).map fun z => (x.2.2.2 ++ z.1, z.2))
            (fun x L => [.own (.row (.slice x.2.1 x.2.2.2.length x.2.2.1) x.2.2.2), .own (.box H1.length [.int .i64 l[p], .int .i64 l[p + 1], .int .i64 l[p + 2], .int .i64 l[p + 3], .int .i64 l[p + 4], .slice x.2.1 x.2.2.2.length x.2.2.1]), .own (.box H.length [.int .i64 0, .int .i64 0, .int .i64 0, .int .i64 0, .int .i64 0, .slice none 0 0])])
            (fun x => n - x.1) (0, none, 0, []) ⟨rfl, rfl, Nat.zero_le _, rfl, ?_⟩ rfl ?_
          · simp only [List.nil_append, Nat.sub_zero, Nat.mul_zero, Nat.add_zero]
            cases rdNums nfS n (l.drop (p + 7)) <;> rfl
          · rintro ⟨k, a', c', nums⟩ tm1 H5 ⟨lv1, lv2, lv3, lv4, -⟩ ⟨k1, k8, hk, hnl, hnum⟩ q5
            simp -implicitDefEqProofs only [kz, kk0, kk1, kk2, kk3, ↓two_true, ↓two_false, mkv, aggAt, Nat.reduceLeDiff, Nat.reduceSub, Nat.reduceMul, implies_true, Nat.reduceEqDiff, reduceIte, Nat.reduceAdd, Nat.reduceBEq, reduceCtorEq, al66, ap64_64, bd63, bd66, bs64_1, cv5_3, fa66_0, fa66_3, ix22, ld3, ld5, ld64, ld66, ln22, st64, st66, m1, m2] at lv1 lv2 lv3 lv4
            simp only at k1 k8 hk hnl hnum
            simp -implicitDefEqProofs only [kz, kk0, kk1, kk2, kk3, ↓two_true, ↓two_false, mkv, aggAt, Nat.reduceLeDiff, Nat.reduceSub, Nat.reduceMul, implies_true, Nat.reduceEqDiff, reduceIte, Nat.reduceAdd, Nat.reduceBEq, reduceCtorEq, al66, ap64_64, bd63, bd66, bs64_1, cv5_3, fa66_0, fa66_3, ix22, ld3, ld5, ld64, ld66, ln22, st64, st66, lv1, lv2, lv3, lv4, k1, k8]
            refine two_intro (fun v1 => ?_) (fun v1 => ?_)
            · have hk2 : k < n := by have h5 := of_decide_eq_true v1; omega
              try simp -implicitDefEqProofs only [kz, kk0, kk1, kk2, kk3, ↓two_true, ↓two_false, mkv, aggAt, Nat.reduceLeDiff, Nat.reduceSub, Nat.reduceMul, implies_true, Nat.reduceEqDiff, reduceIte, Nat.reduceAdd, Nat.reduceBEq, reduceCtorEq, al66, ap64_64, bd63, bd66, bs64_1, cv5_3, fa66_0, fa66_3, ix22, ld3, ld5, ld64, ld66, ln22, st64, st66, lv1, lv2, lv3, lv4, k1, k8]
              generalize hat : p + 7 + 8 * k = at' at *
              have hat2 : at' + 8 ≤ l.length := by omega
              refine rW_loopQ (σ := Nat) q5 [0, 1, 4, 6, 7, 8] (fun i tm => tm 9 = .int .i64 (IntKind.i64.wrap (loF i (l.drop (at' + 8 - i)))) ∧ tm 10 = .int .i64 (7 - (i : Int)) ∧ i ≤ 8) (fun i L => L) (fun i => 8 - i) 0 ⟨rfl, rfl, Nat.zero_le _⟩ rfl ?_
              rintro i tm2 H6 ⟨mv1, mv2, mv3, mv4, mv5, mv6, -⟩ ⟨n9, n10, hi⟩ q6
              simp -implicitDefEqProofs only [kz, kk0, kk1, kk2, kk3, ↓two_true, ↓two_false, mkv, aggAt, Nat.reduceLeDiff, Nat.reduceSub, Nat.reduceMul, implies_true, Nat.reduceEqDiff, reduceIte, Nat.reduceAdd, Nat.reduceBEq, reduceCtorEq, al66, ap64_64, bd63, bd66, bs64_1, cv5_3, fa66_0, fa66_3, ix22, ld3, ld5, ld64, ld66, ln22, st64, st66, lv1, lv2, lv3, lv4, k1, k8] at mv1 mv2 mv3 mv4 mv5 mv6
              simp -implicitDefEqProofs only [kz, kk0, kk1, kk2, kk3, ↓two_true, ↓two_false, mkv, aggAt, Nat.reduceLeDiff, Nat.reduceSub, Nat.reduceMul, implies_true, Nat.reduceEqDiff, reduceIte, Nat.reduceAdd, Nat.reduceBEq, reduceCtorEq, al66, ap64_64, bd63, bd66, bs64_1, cv5_3, fa66_0, fa66_3, ix22, ld3, ld5, ld64, ld66, ln22, st64, st66, mv1, mv2, mv3, mv4, mv5, mv6, n9, n10]
              refine two_intro (fun v2 => ?_) (fun v2 => ?_)
              · have hi2 : i < 8 := by have h5 := of_decide_eq_true v2; omega
                have wj : IntKind.i64.wrap (7 - (i : Int) - 1) = 7 - ((i + 1 : Nat) : Int) := by rw [IntWalk.i64_in _ (by omega)]; omega
                have wix : IntKind.i64.wrap ((at' : Int) + (7 - (i : Int))) = ((at' + 8 - (i + 1) : Nat) : Int) := by rw [IntWalk.i64_in _ (by omega)]; omega
                have hix : at' + 8 - (i + 1) < l.length := by omega
                have hrd6 := rd_ext hrd q6.ext
                obtain ⟨y1, y2⟩ := loF_nn (k := i) (hy.drop (at' + 8 - i))
                have y3 : loF i (l.drop (at' + 8 - i)) < 72057594037927936 := by
                  have : i = 0 ∨ i = 1 ∨ i = 2 ∨ i = 3 ∨ i = 4 ∨ i = 5 ∨ i = 6 ∨ i = 7 := by omega
                  refine Int.lt_of_lt_of_le y2 ?_
                  rcases this with rfl | rfl | rfl | rfl | rfl | rfl | rfl | rfl <;> decide
                have y4 : IntKind.i64.wrap (loF i (l.drop (at' + 8 - i))) = loF i (l.drop (at' + 8 - i)) := IntWalk.i64_in _ (by omega)
                have yb := hy _ (List.getElem_mem hix)
                have hsh := fun (t : TypeId) (x y : Operand) => bin_shl (P := Try.prog) (t := t) (x := x) (y := y) (k := .i64) (k' := .u64) (a := loF i (l.drop (at' + 8 - i))) (b := (8 : Int)) (by omega)
                simp only [show (2 : Int) ^ (min ((8 : Int).toNat) IntKind.i64.bits) = 256 by decide] at hsh
                have hor := or_byte ⟨y1, y3⟩ yb
                have hst : loF (i + 1) (l.drop (at' + 8 - (i + 1))) = l[at' + 8 - (i + 1)] + 256 * loF i (l.drop (at' + 8 - i)) := by
                  rw [loF, List.tail_drop, gg _ hix, show at' + 8 - (i + 1) + 1 = at' + 8 - i by omega]
                rw [← hst] at hor
                simp -implicitDefEqProofs only [kz, kk0, kk1, kk2, kk3, ↓two_true, ↓two_false, mkv, aggAt, Nat.reduceLeDiff, Nat.reduceSub, Nat.reduceMul, implies_true, Nat.reduceEqDiff, reduceIte, Nat.reduceAdd, Nat.reduceBEq, reduceCtorEq, al66, ap64_64, bd63, bd66, bs64_1, cv5_3, fa66_0, fa66_3, ix22, ld3, ld5, ld64, ld66, ln22, st64, st66, mv1, mv2, mv3, mv4, mv5, mv6, n9, n10, y4, hsh, wix, hrd6, Int.toNat_natCast, Nat.mul_one, hcell _ hix, wb _ hix, bin_or, hor, wj]
                refine ⟨hin _ hix, ?_⟩
                exact ⟨i + 1, by omega, ⟨rfl, rfl, rfl, rfl, rfl, rfl, trivial⟩, ⟨rfl, rfl, hi2⟩, q6⟩
              · have hi2 : i = 8 := by have h5 := of_decide_eq_false v2; omega
                subst hi2
                rw [Nat.add_sub_cancel] at n9
                have wk : IntKind.i64.wrap ((k : Int) + 1) = ((k + 1 : Nat) : Int) := IntWalk.i64_in ((k : Int) + 1) (by omega)
                have wat : IntKind.i64.wrap ((at' : Int) + 8) = ((at' + 8 : Nat) : Int) := IntWalk.i64_in ((at' : Int) + 8) (by omega)
                simp -implicitDefEqProofs only [kz, kk0, kk1, kk2, kk3, ↓two_true, ↓two_false, mkv, aggAt, Nat.reduceLeDiff, Nat.reduceSub, Nat.reduceMul, implies_true, Nat.reduceEqDiff, reduceIte, Nat.reduceAdd, Nat.reduceBEq, reduceCtorEq, al66, ap64_64, bd63, bd66, bs64_1, cv5_3, fa66_0, fa66_3, ix22, ld3, ld5, ld64, ld66, ln22, st64, st66, mv1, mv2, mv3, mv4, mv5, mv6, n9, n10, q6.rd 1 rfl]
                refine st_lit [IntKind.i64.wrap (IntKind.i64.wrap (loF 8 (l.drop at')) - 1000000000000)] rfl rfl q6 fun H7 q7 => ?_
                simp -implicitDefEqProofs only [kz, kk0, kk1, kk2, kk3, ↓two_true, ↓two_false, mkv, aggAt, Nat.reduceLeDiff, Nat.reduceSub, Nat.reduceMul, implies_true, Nat.reduceEqDiff, reduceIte, Nat.reduceAdd, Nat.reduceBEq, reduceCtorEq, al66, ap64_64, bd63, bd66, bs64_1, cv5_3, fa66_0, fa66_3, ix22, ld3, ld5, ld64, ld66, ln22, st64, st66, mv1, mv2, mv3, mv4, mv5, mv6, n9, n10, q7.rd 2 rfl]
                refine st_app q7 1 rfl (q7.int 0 rfl) (by simp; omega) fun a2 c2 H8 q8 => ?_
                simp only [List.set_cons_zero, List.set_cons_succ, List.length_cons, List.length_nil, Nat.zero_add] at q8 ⊢
                simp -implicitDefEqProofs only [kz, kk0, kk1, kk2, kk3, ↓two_true, ↓two_false, mkv, aggAt, Nat.reduceLeDiff, Nat.reduceSub, Nat.reduceMul, implies_true, Nat.reduceEqDiff, reduceIte, Nat.reduceAdd, Nat.reduceBEq, reduceCtorEq, al66, ap64_64, bd63, bd66, bs64_1, cv5_3, fa66_0, fa66_3, ix22, ld3, ld5, ld64, ld66, ln22, st64, st66, mv1, mv2, mv3, mv4, mv5, mv6, n9, n10, q8.rd 2 rfl]
                refine st_set q8 2 rfl fun H9 q9 => ?_
                simp only [List.set_cons_zero, List.set_cons_succ] at q9
                simp -implicitDefEqProofs only [kz, kk0, kk1, kk2, kk3, ↓two_true, ↓two_false, mkv, aggAt, Nat.reduceLeDiff, Nat.reduceSub, Nat.reduceMul, implies_true, Nat.reduceEqDiff, reduceIte, Nat.reduceAdd, Nat.reduceBEq, reduceCtorEq, al66, ap64_64, bd63, bd66, bs64_1, cv5_3, fa66_0, fa66_3, ix22, ld3, ld5, ld64, ld66, ln22, st64, st66, mv1, mv2, mv3, mv4, mv5, mv6, n9, n10, wk, wat]
                have q10 := q9.sel2 [1, 2, 3] (by decide) rfl
                simp only [List.filterMap_cons, List.filterMap_nil, List.getElem?_cons_zero, List.getElem?_cons_succ] at q10
                have hlen1 : (nums ++ [IntKind.i64.wrap (IntKind.i64.wrap (loF 8 (l.drop at')) - 1000000000000)]).length = nums.length + 1 := by simp
                refine ⟨(k + 1, a2, c2, nums ++ [IntKind.i64.wrap (IntKind.i64.wrap (loF 8 (l.drop at')) - 1000000000000)]), by simp only; omega, ⟨?_, ?_, ?_, ?_, trivial⟩, ⟨?_, rfl, hk2, by simp only; rw [hlen1]; omega, ?_⟩, by simp only; rw [hlen1]; exact q10⟩
                · first | rfl | exact mv1.trans lv1.symm
                · first | rfl | exact mv3.trans lv2.symm
                · first | rfl | exact mv4.trans lv3.symm
                · first | rfl | exact mv5.trans lv4.symm
                · show Value.int .i64 ((at' + 8 : Nat) : Int) = .int .i64 ((p + 7 + 8 * (k + 1) : Nat) : Int)
                  rw [← hat]; rfl
                · simp only
                  obtain ⟨d, hd⟩ : ∃ d, n - k = d + 1 := ⟨n - k - 1, by omega⟩
                  rw [hnum, hd, rdNums, if_neg (by simp; omega), show n - (k + 1) = d by omega, List.drop_drop, show p + 7 + 8 * (k + 1) = at' + 8 by omega]
                  simp only [nfS]
                  cases rdNums nfS d (l.drop (at' + 8)) <;> simp
            · have hk2 : k = n := by have h5 := of_decide_eq_false v1; omega
              subst hk2
              rw [hnum, Nat.sub_self, rdNums]
              simp only [Option.map_some, List.append_nil]
              try simp -implicitDefEqProofs only [kz, kk0, kk1, kk2, kk3, ↓two_true, ↓two_false, mkv, aggAt, Nat.reduceLeDiff, Nat.reduceSub, Nat.reduceMul, implies_true, Nat.reduceEqDiff, reduceIte, Nat.reduceAdd, Nat.reduceBEq, reduceCtorEq, al66, ap64_64, bd63, bd66, bs64_1, cv5_3, fa66_0, fa66_3, ix22, ld3, ld5, ld64, ld66, ln22, st64, st66, lv1, lv2, lv3, lv4, k1, k8, q5.rd 1 rfl, q5.rd 2 rfl]
              refine st_set q5 2 rfl fun H10 q11 => ?_
              simp only [List.set_cons_zero, List.set_cons_succ] at q11
              simp -implicitDefEqProofs only [kz, kk0, kk1, kk2, kk3, ↓two_true, ↓two_false, mkv, aggAt, Nat.reduceLeDiff, Nat.reduceSub, Nat.reduceMul, implies_true, Nat.reduceEqDiff, reduceIte, Nat.reduceAdd, Nat.reduceBEq, reduceCtorEq, al66, ap64_64, bd63, bd66, bs64_1, cv5_3, fa66_0, fa66_3, ix22, ld3, ld5, ld64, ld66, ln22, st64, st66, lv1, lv2, lv3, lv4, k1, k8, q11.rd 2 rfl]
              exact ⟨_, _, _, _, _, _, nums, _, rfl, q11.give [0] (by decide) [.row _ nums] rfl, by omega, rfl, p + 7 + 8 * k, rfl, by omega, rfl⟩

theorem u8_mod {x : Int} : IntKind.u8.wrap x = x % 256 := by
  unfold IntKind.wrap
  have e1 : IntKind.u8.signed = false := rfl
  have e2 : (2 : Int) ^ IntKind.u8.bits = 256 := by decide
  rw [e1, e2, if_neg (by simp)]
theorem u8_inB {x : Int} (h : 0 ≤ x ∧ x ≤ 255) : IntKind.u8.wrap x = x := by rw [u8_mod]; omega
theorem loF_bytes : ∀ {k : Nat} {r : List Int}, byOk r → k ≤ r.length → ((List.range k).map fun j : Nat => IntKind.u8.wrap ((loF k r).fdiv (2 ^ (8 * j)))) = r.take k
  | 0, r, _, _ => by simp
  | k + 1, [], _, h => by simp at h
  | k + 1, x :: t, hb, h => by
    have ih := loF_bytes (k := k) (r := t) hb.tail (by simp at h; omega)
    have hx := hb x (List.mem_cons_self ..)
    rw [List.range_succ_eq_map, List.map_cons, List.map_map, List.take_succ_cons, ← ih]
    congr 1
    · simp only [loF, List.headD_cons, List.tail_cons, Nat.mul_zero, Int.pow_zero, Int.fdiv_one]
      rw [u8_mod]; omega
    · refine List.map_congr_left fun j _ => ?_
      simp only [Function.comp_apply, loF, List.headD_cons, List.tail_cons]
      congr 1
      rw [Int.fdiv_eq_ediv_of_nonneg _ (Int.le_of_lt (Int.pow_pos (by decide))), Int.fdiv_eq_ediv_of_nonneg _ (Int.le_of_lt (Int.pow_pos (by decide)))]
      rw [show 8 * (j + 1) = 8 + 8 * j by omega, Int.pow_add, show (2 : Int) ^ 8 = 256 by decide, ← Int.ediv_ediv_of_nonneg (by decide)]
      congr 1
      omega
theorem le8_loF {r : List Int} (hb : byOk r) (h : ¬ r.length < 8) : le8 (loF 8 r) = r.take 8 := loF_bytes hb (by omega)
theorem nfI_nfS {y z : Int} (hy : 0 ≤ y) (h : nfI y = some z) : nfS y = some z ∧ y = z + 1000000000000 := by
  unfold nfI at h
  split at h
  · cases h
  · simp only [Option.some.injEq] at h
    subst h
    refine ⟨?_, by omega⟩
    unfold nfS
    rw [IntWalk.i64_in y (by omega), IntWalk.i64_in (y - 1000000000000) (by omega)]
theorem i64_mod {x : Int} : ∃ k : Int, IntKind.i64.wrap x = x - 18446744073709551616 * k ∧ -9223372036854775808 ≤ IntKind.i64.wrap x ∧ IntKind.i64.wrap x < 9223372036854775808 := by
  unfold IntKind.wrap
  have e1 : IntKind.i64.signed = true := rfl
  have e2 : (2 : Int) ^ IntKind.i64.bits = 18446744073709551616 := by decide
  have e3 : (2 : Int) ^ (IntKind.i64.bits - 1) = 9223372036854775808 := by decide
  simp only [e1, e2, e3, true_and]
  split
  · rename_i h
    simp only [Bool.true_and, decide_eq_true_eq] at h
    exact ⟨x / 18446744073709551616 + 1, by omega, by omega, by omega⟩
  · rename_i h
    simp only [Bool.true_and, decide_eq_true_eq] at h
    exact ⟨x / 18446744073709551616, by omega, by omega, by omega⟩
theorem nfS_off {y z : Int} (hy : 0 ≤ y ∧ y < 18446744073709551616) (h : nfI y = none) (hz : nfS y = some z) : numOk z = false := by
  have h1 : y > 2000000000000 := by
    unfold nfI at h
    split at h
    · assumption
    · cases h
  unfold nfS at hz
  simp only [Option.some.injEq] at hz
  obtain ⟨k, e1, e2, e3⟩ := i64_mod (x := y)
  obtain ⟨k2, e4, e5, e6⟩ := i64_mod (x := IntKind.i64.wrap y - 1000000000000)
  rw [hz] at e4 e5 e6
  unfold numOk inB
  have : ¬ (-1000000000000 ≤ z ∧ z ≤ 1000000000000) := by omega
  simpa using this
theorem rdNums_pk {k : Nat} : ∀ {r r' : List Int} {xs : List Int}, byOk r → rdNums nfI k r = some (xs, r') → r = (xs.flatMap fun n => le8 (n + 1000000000000)) ++ r' ∧ xs.length = k ∧ rdNums nfS k r = some (xs, r') := by
  induction k with
  | zero =>
    intro r r' xs _ h
    simp only [rdNums, Option.some.injEq, Prod.mk.injEq] at h
    obtain ⟨rfl, rfl⟩ := h
    exact ⟨rfl, rfl, rfl⟩
  | succ k ih =>
    intro r r' xs hb h
    rw [rdNums] at h
    rw [rdNums]
    split at h
    · cases h
    · rename_i h8
      rw [if_neg h8]
      cases hn : nfI (loF 8 r) with
      | none => rw [hn] at h; cases h
      | some y =>
        rw [hn] at h
        obtain ⟨hs, hy⟩ := nfI_nfS (loF_nn (k := 8) hb).1 hn
        rw [hs]
        simp only at h ⊢
        cases hr : rdNums nfI k (r.drop 8) with
        | none => rw [hr] at h; cases h
        | some z =>
          obtain ⟨zs, z'⟩ := z
          rw [hr] at h
          simp only [Option.map_some, Option.some.injEq, Prod.mk.injEq] at h
          obtain ⟨rfl, rfl⟩ := h
          obtain ⟨i1, i2, i3⟩ := ih (hb.drop 8) hr
          refine ⟨?_, by rw [List.length_cons, i2], by rw [i3]; rfl⟩
          rw [List.flatMap_cons, ← hy, le8_loF hb h8, List.append_assoc, ← i1, List.take_append_drop]
theorem rdNums_off {k : Nat} : ∀ {r r' : List Int} {xs : List Int}, byOk r → rdNums nfI k r = none → rdNums nfS k r = some (xs, r') → xs.all numOk = false := by
  induction k with
  | zero => intro r r' xs _ h; cases h
  | succ k ih =>
    intro r r' xs hb h h2
    rw [rdNums] at h h2
    split at h
    · rename_i h8
      rw [if_pos h8] at h2; cases h2
    · rename_i h8
      rw [if_neg h8] at h2
      cases hs : nfS (loF 8 r) with
      | none => rw [hs] at h2; cases h2
      | some z =>
        rw [hs] at h2
        simp only at h2
        cases hr : rdNums nfS k (r.drop 8) with
        | none => rw [hr] at h2; cases h2
        | some w =>
          obtain ⟨ws, w'⟩ := w
          rw [hr] at h2
          simp only [Option.map_some, Option.some.injEq, Prod.mk.injEq] at h2
          obtain ⟨rfl, rfl⟩ := h2
          rw [List.all_cons]
          cases hn : nfI (loF 8 r) with
          | none =>
            have := loF_nn (k := 8) hb
            rw [nfS_off ⟨this.1, by have e := this.2; have e2 : (256 : Int) ^ 8 = 18446744073709551616 := by decide
                                    omega⟩ hn hs]
            rfl
          | some y =>
            rw [hn] at h
            simp only at h
            have h3 : rdNums nfI k (r.drop 8) = none := by
              cases hq : rdNums nfI k (r.drop 8) with
              | none => rfl
              | some q => rw [hq] at h; cases h
            rw [ih (hb.drop 8) h3 hr, Bool.and_false]
theorem rdNums_len {f : Int → Option Int} {k : Nat} : ∀ {r r' : List Int} {xs : List Int}, rdNums f k r = some (xs, r') → xs.length = k ∧ ∃ m, r' = r.drop m := by
  induction k with
  | zero =>
    intro r r' xs h
    simp only [rdNums, Option.some.injEq, Prod.mk.injEq] at h
    obtain ⟨rfl, rfl⟩ := h
    exact ⟨rfl, 0, rfl⟩
  | succ k ih =>
    intro r r' xs h
    rw [rdNums] at h
    split at h
    · cases h
    · cases hn : f (loF 8 r) with
      | none => rw [hn] at h; cases h
      | some y =>
        rw [hn] at h
        simp only at h
        cases hr : rdNums f k (r.drop 8) with
        | none => rw [hr] at h; cases h
        | some z =>
          obtain ⟨zs, z'⟩ := z
          rw [hr] at h
          simp only [Option.map_some, Option.some.injEq, Prod.mk.injEq] at h
          obtain ⟨rfl, rfl⟩ := h
          obtain ⟨i1, m, i2⟩ := ih hr
          exact ⟨by rw [List.length_cons, i1], 8 + m, by rw [i2, List.drop_drop]⟩
theorem rdIns_len {f : Int → Option Int} {r r' : List Int} {cs : List CV} (hb : byOk r) (h : rdIns f r = some (cs, r')) : cs.length = 6 ∧ (∃ m, r' = r.drop m) ∧ cntF cs ≤ 65545 := by
  unfold rdIns at h
  split at h
  · cases h
  · split at h
    · split at h
      · cases h
      · have h2 := loF_nn (k := 2) (hb.drop 5)
        have e2 : (256 : Int) ^ 2 = 65536 := by decide
        cases hr : rdNums f (loF 2 (r.drop 5)).toNat (r.drop 7) with
        | none => rw [hr] at h; cases h
        | some z =>
          obtain ⟨zs, z'⟩ := z
          rw [hr] at h
          simp only [Option.map_some, Option.some.injEq, Prod.mk.injEq] at h
          obtain ⟨rfl, rfl⟩ := h
          obtain ⟨l1, m, l2⟩ := rdNums_len hr
          refine ⟨rfl, ⟨7 + m, by rw [l2, List.drop_drop]⟩, ?_⟩
          simp only [cntF, cnt1, List.map_cons, List.map_nil, List.sum_cons, List.sum_nil]
          omega
    · simp only [Option.some.injEq, Prod.mk.injEq] at h
      obtain ⟨rfl, rfl⟩ := h
      refine ⟨rfl, ⟨5, rfl⟩, ?_⟩
      simp [cntF, cnt1]
theorem rdIns_pk {r r' : List Int} {cs : List CV} (hb : byOk r) (h : rdIns nfI r = some (cs, r')) : r = pkI (insOf cs) ++ r' ∧ rdIns nfS r = some (cs, r') := by
  unfold rdIns at h ⊢
  split at h
  · cases h
  · rename_i h5
    rw [if_neg h5]
    match r, h5 with
    | [], h5 => exact absurd (by simp) h5
    | [_], h5 => exact absurd (by simp) h5
    | [_, _], h5 => exact absurd (by simp) h5
    | [_, _, _], h5 => exact absurd (by simp) h5
    | [_, _, _, _], h5 => exact absurd (by simp) h5
    | a :: b :: c :: d :: e :: t, _ =>
      have ba := hb a (by simp)
      have bb := hb b (by simp)
      have bc := hb c (by simp)
      have bd := hb d (by simp)
      have be := hb e (by simp)
      simp only [List.headD_cons, List.tail_cons, List.drop_succ_cons, List.drop_zero] at h ⊢
      have e5 : [a, b, c, d, e].map IntKind.u8.wrap = [a, b, c, d, e] := by simp [u8_inB ba, u8_inB bb, u8_inB bc, u8_inB bd, u8_inB be]
      split at h
      · rename_i h1
        rw [if_pos h1]
        split at h
        · cases h
        · rename_i h7
          rw [if_neg h7]
          cases t with
          | nil => simp at h7
          | cons x t =>
            cases t with
            | nil => simp at h7
            | cons y t =>
              have bx := hb x (by simp)
              have by' := hb y (by simp)
              simp only [loF, List.headD_cons, List.tail_cons, List.drop_succ_cons, List.drop_zero] at h ⊢
              cases hr : rdNums nfI (x + 256 * (y + 256 * 0)).toNat t with
              | none => rw [hr] at h; cases h
              | some z =>
                obtain ⟨zs, z'⟩ := z
                rw [hr] at h
                simp only [Option.map_some, Option.some.injEq, Prod.mk.injEq] at h
                obtain ⟨rfl, rfl⟩ := h
                obtain ⟨i1, i2, i3⟩ := rdNums_pk (fun w hw => hb w (by simp [hw])) hr
                refine ⟨?_, by rw [i3]; rfl⟩
                have ep : pkI (insOf [.i a, .i b, .i c, .i d, .i e, .r zs]) = ([a, b, c, d, e].map IntKind.u8.wrap) ++ if a = 1 then [IntKind.u8.wrap (zs.length : Int), IntKind.u8.wrap ((zs.length : Int) / 256)] ++ zs.flatMap (fun n => le8 (n + 1000000000000)) else [] := rfl
                rw [ep, if_pos h1, e5]
                have l1 : IntKind.u8.wrap (zs.length : Int) = x := by rw [i2, u8_mod]; omega
                have l2 : IntKind.u8.wrap ((zs.length : Int) / 256) = y := by rw [i2, u8_mod]; omega
                rw [l1, l2]
                simp only [List.cons_append, List.nil_append, List.cons.injEq, true_and]
                exact i1
      · rename_i h1
        rw [if_neg h1]
        simp only [Option.some.injEq, Prod.mk.injEq] at h
        obtain ⟨rfl, rfl⟩ := h
        refine ⟨?_, rfl⟩
        have ep : pkI (insOf [.i a, .i b, .i c, .i d, .i e, .r []]) = ([a, b, c, d, e].map IntKind.u8.wrap) ++ if a = 1 then [IntKind.u8.wrap (([] : List Int).length : Int), IntKind.u8.wrap ((([] : List Int).length : Int) / 256)] ++ ([] : List Int).flatMap (fun n => le8 (n + 1000000000000)) else [] := rfl
        rw [ep, if_neg h1, e5]
        rfl
theorem rdIns_off {r r' : List Int} {cs : List CV} (hb : byOk r) (h : rdIns nfI r = none) (h2 : rdIns nfS r = some (cs, r')) : insOk (insOf cs) = false := by
  unfold rdIns at h h2
  split at h
  · rename_i h5; rw [if_pos h5] at h2; cases h2
  · rename_i h5
    rw [if_neg h5] at h2
    split at h
    · rename_i h1
      rw [if_pos h1] at h2
      split at h
      · rename_i h7; rw [if_pos h7] at h2; cases h2
      · rename_i h7
        rw [if_neg h7] at h2
        have h3 : rdNums nfI (loF 2 (r.drop 5)).toNat (r.drop 7) = none := by
          cases hq : rdNums nfI (loF 2 (r.drop 5)).toNat (r.drop 7) with
          | none => rfl
          | some q => rw [hq] at h; cases h
        cases hr : rdNums nfS (loF 2 (r.drop 5)).toNat (r.drop 7) with
        | none => rw [hr] at h2; cases h2
        | some z =>
          obtain ⟨zs, z'⟩ := z
          rw [hr] at h2
          simp only [Option.map_some, Option.some.injEq, Prod.mk.injEq] at h2
          obtain ⟨rfl, rfl⟩ := h2
          have ho := rdNums_off (hb.drop 7) h3 hr
          rw [Bool.eq_false_iff]
          intro hk
          have := insOk_nums hk h1
          simp only [insOf, numsOk, ho, Bool.and_false] at this
          cases this
    · cases h
theorem insL_cons {cs W : List CV} {k : Nat} (h : cs.length = 6) : insL (cs ++ W) (k + 1) = insOf cs :: insL W k := by
  unfold insL chunk
  rw [List.range_succ_eq_map, List.map_cons, List.map_cons, List.map_map, List.map_map, List.map_map]
  congr 1
  · rw [Nat.zero_mul, List.drop_zero, ← h, List.take_left]
  · refine List.map_congr_left fun i _ => ?_
    simp only [Function.comp_apply]
    rw [show (i + 1) * 6 = cs.length + i * 6 by omega, ← List.drop_drop, List.drop_left]
theorem rdAll_pk {k : Nat} : ∀ {r r' : List Int} {V : List CV}, byOk r → rdAll nfI k r = some (V, r') → r = (insL V k).flatMap pkI ++ r' ∧ rdAll nfS k r = some (V, r') := by
  induction k with
  | zero =>
    intro r r' V _ h
    simp only [rdAll, Option.some.injEq, Prod.mk.injEq] at h
    obtain ⟨rfl, rfl⟩ := h
    exact ⟨rfl, rfl⟩
  | succ k ih =>
    intro r r' V hb h
    rw [rdAll] at h
    rw [rdAll]
    cases hi : rdIns nfI r with
    | none => rw [hi] at h; cases h
    | some z =>
      obtain ⟨cs, t⟩ := z
      rw [hi] at h
      simp only at h
      cases hr : rdAll nfI k t with
      | none => rw [hr] at h; cases h
      | some w =>
        obtain ⟨W, t'⟩ := w
        rw [hr] at h
        simp only [Option.map_some, Option.some.injEq, Prod.mk.injEq] at h
        obtain ⟨rfl, rfl⟩ := h
        obtain ⟨p1, p2⟩ := rdIns_pk hb hi
        obtain ⟨l1, ⟨m, rfl⟩, -⟩ := rdIns_len hb hi
        obtain ⟨q1, q2⟩ := ih (hb.drop m) hr
        refine ⟨?_, by rw [p2]; simp only; rw [q2]; rfl⟩
        rw [insL_cons l1, List.flatMap_cons, List.append_assoc, ← q1]
        exact p1
theorem rdAll_off {k : Nat} : ∀ {r r' : List Int} {V : List CV}, byOk r → rdAll nfI k r = none → rdAll nfS k r = some (V, r') → (insL V k).all insOk = false := by
  induction k with
  | zero => intro r r' V _ h; cases h
  | succ k ih =>
    intro r r' V hb h h2
    rw [rdAll] at h h2
    cases hs : rdIns nfS r with
    | none => rw [hs] at h2; cases h2
    | some z =>
      obtain ⟨cs, t⟩ := z
      rw [hs] at h2
      simp only at h2
      obtain ⟨l1, ⟨m, rfl⟩, -⟩ := rdIns_len hb hs
      cases hr : rdAll nfS k (r.drop m) with
      | none => rw [hr] at h2; cases h2
      | some w =>
        obtain ⟨W, t'⟩ := w
        rw [hr] at h2
        simp only [Option.map_some, Option.some.injEq, Prod.mk.injEq] at h2
        obtain ⟨rfl, rfl⟩ := h2
        rw [insL_cons l1, List.all_cons]
        cases hi : rdIns nfI r with
        | none => rw [rdIns_off hb hi hs]; rfl
        | some z2 =>
          obtain ⟨cs2, t2⟩ := z2
          have p2 := (rdIns_pk hb hi).2
          rw [hs, Option.some.injEq, Prod.mk.injEq] at p2
          obtain ⟨rfl, rfl⟩ := p2
          rw [hi] at h
          simp only at h
          have h3 : rdAll nfI k (r.drop m) = none := by
            cases hq : rdAll nfI k (r.drop m) with
            | none => rfl
            | some q => rw [hq] at h; cases h
          rw [ih (hb.drop m) h3 hr, Bool.and_false]
theorem rdAll_len {f : Int → Option Int} {k : Nat} : ∀ {r r' : List Int} {V : List CV}, byOk r → rdAll f k r = some (V, r') → V.length = 6 * k ∧ cntF V ≤ 65545 * k := by
  induction k with
  | zero =>
    intro r r' V _ h
    simp only [rdAll, Option.some.injEq, Prod.mk.injEq] at h
    obtain ⟨rfl, rfl⟩ := h
    exact ⟨rfl, Nat.le_refl _⟩
  | succ k ih =>
    intro r r' V hb h
    rw [rdAll] at h
    cases hi : rdIns f r with
    | none => rw [hi] at h; cases h
    | some z =>
      obtain ⟨cs, t⟩ := z
      rw [hi] at h
      simp only at h
      cases hr : rdAll f k t with
      | none => rw [hr] at h; cases h
      | some w =>
        obtain ⟨W, t'⟩ := w
        rw [hr] at h
        simp only [Option.map_some, Option.some.injEq, Prod.mk.injEq] at h
        obtain ⟨rfl, rfl⟩ := h
        obtain ⟨l1, ⟨m, rfl⟩, l3⟩ := rdIns_len hb hi
        obtain ⟨q1, q2⟩ := ih (hb.drop m) hr
        refine ⟨by rw [List.length_append]; omega, ?_⟩
        have : cntF (cs ++ W) = cntF cs + cntF W := by simp [cntF]
        omega
/-- What spec answers. -/
def rdS (l : List Int) : Option (List CV) := match l with
  | [] => none
  | x :: t => match rdAll nfS x.toNat t with
    | some (V, _) => if cdOk (insL V x.toNat) = true ∧ pkA (insL V x.toNat) = x :: t then some V else none
    | none => none
theorem cdOk_all {l : List Ins} (h : cdOk l = true) : l.all insOk = true := by
  unfold cdOk at h
  simp only [Bool.and_eq_true] at h
  exact h.2.1
theorem rdS_eq {l : List Int} (hb : byOk l) : rdS l = rdR l := by
  cases l with
  | nil => rfl
  | cons x t =>
    have hx := hb x (List.mem_cons_self ..)
    obtain ⟨K, rfl⟩ : ∃ K : Nat, x = K := ⟨x.toNat, by omega⟩
    simp only [rdS, rdR, Int.toNat_natCast]
    cases hi : rdAll nfI K t with
    | none =>
      simp only
      cases hs : rdAll nfS K t with
      | none => rfl
      | some z =>
        obtain ⟨V, r⟩ := z
        have := rdAll_off hb.tail hi hs
        simp only
        rw [if_neg]
        rintro ⟨h1, -⟩
        rw [cdOk_all h1] at this
        cases this
    | some z =>
      obtain ⟨V, r⟩ := z
      obtain ⟨p1, p2⟩ := rdAll_pk hb.tail hi
      rw [show rdAll nfS K t = some (V, r) from p2]
      simp only
      have hp : cdOk (insL V K) = true → (pkA (insL V K) = (K : Int) :: t ↔ r = []) := fun hk => by
        unfold pkA pkG
        rw [if_pos hk, insL_len, u8_inB hx, List.cons.injEq]
        constructor
        · rintro ⟨-, h⟩
          rw [← h] at p1
          simpa using p1
        · rintro rfl
          rw [List.append_nil] at p1
          exact ⟨rfl, p1.symm⟩
      cases r with
      | nil =>
        simp only
        by_cases hk : cdOk (insL V K) = true
        · rw [if_pos ⟨hk, (hp hk).2 rfl⟩, if_pos hk]
        · rw [if_neg (fun h => hk h.1), if_neg hk]
      | cons y s =>
        simp only
        rw [if_neg]
        rintro ⟨hk, h⟩
        exact absurd ((hp hk).1 h) (by simp)

theorem ba_loop {bs : ByteArray} {n : Nat} : ∀ {i : Nat} {r : List UInt8}, bs.size - i = n → i ≤ bs.size → ByteArray.toList.loop bs i r = r.reverse ++ bs.data.toList.drop i := by
  have hlen : bs.data.toList.length = bs.size := by rw [Array.length_toList]; rfl
  induction n with
  | zero =>
    intro i r h hi
    have e : i = bs.size := by omega
    subst e
    rw [ByteArray.toList.loop, if_neg (Nat.lt_irrefl _), List.drop_eq_nil_of_le (by omega), List.append_nil]
  | succ n ih =>
    intro i r h hi
    have hlt : i < bs.size := by omega
    have hl : i < bs.data.toList.length := by omega
    have hg : bs.get! i = bs.data.toList[i] := by
      cases bs with
      | mk d =>
        have hd : i < d.size := hlt
        simp [ByteArray.get!, hd]
    rw [ByteArray.toList.loop, if_pos hlt, ih (by omega) (by omega), List.drop_eq_getElem_cons hl, hg]
    simp
theorem ba_list {bs : ByteArray} : bs.toList = bs.data.toList := by
  unfold ByteArray.toList
  rw [ba_loop (n := bs.size) rfl (Nat.zero_le _)]
  simp
theorem bin_str_neq {P : Program} {t : TypeId} {x y : Operand} {p q : ByteArray} : aBin P .neq t x y (.string p) (.string q) = some (.bool (!(p.toList == q.toList))) := by
  simp only [aBin, scal, scal1, eqGuard, binOp, Op.stringOp, runP, told, pure, bind, Sem.bind]
  simp [runP, pure, Sem.bind]
theorem strOf_go : ∀ {l : List Int} {r : ByteArray}, (l.foldl (fun r n => r.push (UInt8.ofNat n.toNat)) r).data.toList = r.data.toList ++ l.map fun n => UInt8.ofNat n.toNat
  | [], r => by simp
  | x :: t, r => by
    rw [List.foldl_cons, strOf_go, List.map_cons]
    have : (r.push (UInt8.ofNat x.toNat)).data.toList = r.data.toList ++ [UInt8.ofNat x.toNat] := by
      rw [ByteArray.push]
      simp
    rw [this, List.append_assoc]
    rfl
theorem strOf_list {l : List Int} : (strOf l).data.toList = l.map fun n => UInt8.ofNat n.toNat := by
  unfold strOf
  rw [strOf_go]
  rfl
theorem strOf_inj : ∀ {l m : List Int}, byOk l → byOk m → strOf l = strOf m → l = m := by
  intro l m hl hm h
  have h2 : l.map (fun n => UInt8.ofNat n.toNat) = m.map fun n => UInt8.ofNat n.toNat := by rw [← strOf_list, ← strOf_list, h]
  clear h
  induction l generalizing m with
  | nil => cases m with
    | nil => rfl
    | cons y t => cases h2
  | cons x t ih => cases m with
    | nil => cases h2
    | cons y s =>
      simp only [List.map_cons, List.cons.injEq] at h2
      have h3 := congrArg UInt8.toNat h2.1
      rw [UInt8.toNat_ofNat', UInt8.toNat_ofNat'] at h3
      have hx := hl x (List.mem_cons_self ..)
      have hy := hm y (List.mem_cons_self ..)
      rw [ih (m := s) hl.tail hm.tail h2.2, show x = y by omega]
theorem str_beq {l m : List Int} (hl : byOk l) (hm : byOk m) : ((strOf l).toList == (strOf m).toList) = decide (l = m) := by
  rw [Bool.eq_iff_iff]
  simp only [beq_iff_eq, decide_eq_true_eq]
  refine ⟨fun h => strOf_inj hl hm ?_, fun h => by rw [h]⟩
  rw [ba_list, ba_list] at h
  have h2 := congrArg List.toArray h
  simp only [Array.toArray_toList] at h2
  exact ByteArray.ext h2
theorem u8s_bts : ∀ {l : List Int}, u8s (bts l) = some l
  | [] => rfl
  | x :: t => by
    show (u8s (bts t)).map (x :: ·) = _
    rw [u8s_bts]; rfl
theorem ByRow.cells {H : AH} {v : Value} {l : List Int} (h : ByRow H v l) : aCells v 1 H.get = some (bts l) := by
  rcases h with ⟨rfl, rfl⟩ | ⟨b, o, cs, rfl, h1, h2, h3⟩
  · rfl
  · unfold rd rdB at h1
    show (match H.get b with | some ⟨cs, st⟩ => if st = St.dead then none else cellsAt cs o (l.length * 1) | none => none) = _
    unfold AH.get
    cases hb : H[b]? with
    | none => rw [hb] at h1; cases h1
    | some k =>
      rw [hb] at h1
      obtain ⟨ks, st⟩ := k
      cases st with
      | dead => cases h1
      | ro =>
        cases h1
        simp only [Nat.mul_one, cellsAt, if_pos h2, h3, reduceCtorEq, if_false]
      | own =>
        cases h1
        simp only [Nat.mul_one, cellsAt, if_pos h2, h3, reduceCtorEq, if_false]
theorem ByRow.str {P : Program} {H : AH} {v : Value} {l : List Int} {s d e : TypeId} (h : ByRow H v l) (hs : P.underlying s = some (.slice e)) (hd : P.underlying d = some .string) (he : P.underlying e = some (.int .u8)) : aConv P s d v H.get = some (.string (strOf l)) := by
  have h1 : scal1 v = false := by obtain ⟨a, c, rfl, -⟩ := h.op; rfl
  unfold aConv
  rw [if_neg (by rw [h1]; decide), hs, hd]
  simp only [he, h.cells, Option.bind_some, u8s_bts, Option.map_some]
theorem byOk_pkA_u {x : Int} : 0 ≤ IntKind.u8.wrap x ∧ IntKind.u8.wrap x ≤ 255 := by
  unfold IntKind.wrap
  have e1 : IntKind.u8.signed = false := rfl
  have e2 : (2 : Int) ^ IntKind.u8.bits = 256 := by decide
  rw [e1, e2, if_neg (by simp)]
  omega

theorem byOk_le8 {y : Int} : byOk (le8 y) := fun x hx => by
  obtain ⟨j, _, rfl⟩ := List.mem_map.1 hx
  exact byOk_pkA_u
theorem byOk_pkI {x : Ins} : byOk (pkI x) := fun y hy => by
  unfold pkI at hy
  rcases List.mem_append.1 hy with hy | hy
  · obtain ⟨z, _, rfl⟩ := List.mem_map.1 hy
    exact byOk_pkA_u
  · split at hy
    · rcases List.mem_append.1 hy with hy | hy
      · simp only [List.mem_cons, List.not_mem_nil, or_false] at hy
        rcases hy with rfl | rfl <;> exact byOk_pkA_u
      · obtain ⟨n, _, hy⟩ := List.mem_flatMap.1 hy
        exact byOk_le8 y hy
    · simp at hy
theorem byOk_pkA {l : List Ins} : byOk (pkA l) := fun y hy => by
  unfold pkA pkG at hy
  split at hy
  · rcases List.mem_cons.1 hy with rfl | hy
    · exact byOk_pkA_u
    · obtain ⟨n, _, hy⟩ := List.mem_flatMap.1 hy
      exact byOk_pkI y hy
  · simp at hy
theorem rdS_go {l : List Int} {K : Nat} {V : List CV} {r : List Int} (hK : l.headD 0 = K) (hn : l ≠ []) (h : rdAll nfS K l.tail = some (V, r)) : rdS l = if cdOk (insL V K) = true ∧ pkA (insL V K) = l then some V else none := by
  cases l with
  | nil => exact absurd rfl hn
  | cons x t =>
    have hx : x = (K : Int) := hK
    subst hx
    simp only [rdS, Int.toNat_natCast]
    rw [show rdAll nfS K t = some (V, r) from h]
theorem rdS_bad {l : List Int} {K : Nat} (hK : l.headD 0 = K) (hn : l ≠ []) (h : rdAll nfS K l.tail = none) : rdS l = none := by
  cases l with
  | nil => rfl
  | cons x t =>
    have hx : x = (K : Int) := hK
    subst hx
    simp only [rdS, Int.toNat_natCast]
    rw [show rdAll nfS K t = none from h]

set_option maxHeartbeats 4000000 in
theorem specRead_ok {H : AH} {v : Value} {l : List Int} (hv : ByRow H v l) (hy : byOk l) (hl : l.length ≤ 1048576) :
    CallsA Try.prog 12 #[v] H fun r H' => (∃ w m ys, r = .tuple #[w, .bool (rdS l).isSome] ∧ New H H' w kInstr m ys ∧ cvs H' ys = (rdS l).getD [] ∧ m ≤ 255) ∧ ∃ K, H' = H ++ K := by
  have q := (LX.nil (H := H))
  have hv0 := hv
  obtain ⟨va, vc, rfl, gv⟩ := hv.op
  refine w12 ?_
  unfold k12
  simp -implicitDefEqProofs only [kz, kk0, kk1, kk2, kk3, ↓two_true, ↓two_false, mkv, aggAt, Nat.reduceLeDiff, Nat.reduceSub, Nat.reduceMul, implies_true, Nat.reduceEqDiff, reduceIte, Nat.reduceAdd, Nat.reduceBEq, reduceCtorEq, al66, ap29_29, bs29_0, bs29_1, cv5_3, ix22, ld5, ld66, ln22, st66]
  refine st_cells q fun H1 q1 => ?_
  simp -implicitDefEqProofs only [kz, kk0, kk1, kk2, kk3, ↓two_true, ↓two_false, mkv, aggAt, Nat.reduceLeDiff, Nat.reduceSub, Nat.reduceMul, implies_true, Nat.reduceEqDiff, reduceIte, Nat.reduceAdd, Nat.reduceBEq, reduceCtorEq, al66, ap29_29, bs29_0, bs29_1, cv5_3, ix22, ld5, ld66, ln22, st66]
  have q1 := q1.boxT 0 rfl kInstr 6 rfl
  simp only [List.set_cons_zero] at q1
  refine two_intro (fun u1 => ?_) (fun u1 => ?_)
  · have h0 : l = [] := by
      have : l.length = 0 := by simpa using u1
      exact List.eq_nil_of_length_eq_zero this
    subst h0
    obtain ⟨nw, hV⟩ := q1.new 0 rfl
    try simp -implicitDefEqProofs only [kz, kk0, kk1, kk2, kk3, ↓two_true, ↓two_false, mkv, aggAt, Nat.reduceLeDiff, Nat.reduceSub, Nat.reduceMul, implies_true, Nat.reduceEqDiff, reduceIte, Nat.reduceAdd, Nat.reduceBEq, reduceCtorEq, al66, ap29_29, bs29_0, bs29_1, cv5_3, ix22, ld5, ld66, ln22, st66]
    exact ⟨⟨_, 0, [], rfl, nw, rfl, by omega⟩, q1.ext⟩
  · have hn : l ≠ [] := by rintro rfl; simp at u1
    have hlen : 0 < l.length := by cases l with
      | nil => exact absurd rfl hn
      | cons x t => simp
    obtain ⟨b, o, cs, rfl, rfl, hrd, hle, hcell⟩ := gv hlen
    have hc0 := hcell 0 hlen
    have hh := hy _ (List.getElem_mem hlen)
    obtain ⟨K, hK⟩ : ∃ K : Nat, l[0] = K := ⟨l[0].toNat, by omega⟩
    have hK255 : K ≤ 255 := by omega
    have hKD : l.headD 0 = K := by rw [← hK]; cases l with
      | nil => exact absurd rfl hn
      | cons x t => rfl
    have wK : IntKind.i64.wrap (K : Int) = K := IntWalk.i64_in _ (by omega)
    rw [hK] at hc0
    have z0 : Int.toNat 0 = 0 := rfl
    have g0 : (0 : Int) ≤ 0 ∧ (0 : Int) < ((l.length : Nat) : Int) := by omega
    simp only [Nat.add_zero] at hc0
    try simp -implicitDefEqProofs only [kz, kk0, kk1, kk2, kk3, ↓two_true, ↓two_false, mkv, aggAt, Nat.reduceLeDiff, Nat.reduceSub, Nat.reduceMul, implies_true, Nat.reduceEqDiff, reduceIte, Nat.reduceAdd, Nat.reduceBEq, reduceCtorEq, al66, ap29_29, bs29_0, bs29_1, cv5_3, ix22, ld5, ld66, ln22, st66]
    refine st_cells q1 fun H2 q2 => ?_
    simp -implicitDefEqProofs only [kz, kk0, kk1, kk2, kk3, ↓two_true, ↓two_false, mkv, aggAt, Nat.reduceLeDiff, Nat.reduceSub, Nat.reduceMul, implies_true, Nat.reduceEqDiff, reduceIte, Nat.reduceAdd, Nat.reduceBEq, reduceCtorEq, al66, ap29_29, bs29_0, bs29_1, cv5_3, ix22, ld5, ld66, ln22, st66]
    have q2 := q2.boxT 0 rfl kInstr 6 rfl
    simp only [List.set_cons_zero] at q2
    refine rW_loop (σ := Nat) (fun k tm H' => ∃ a c m xs V p, tm 0 = .slice (some ⟨b, o, none⟩) l.length 1 ∧ tm 4 = .slice (some ⟨H.length, 0, none⟩) 0 6 ∧ tm 5 = .slice a m c ∧ tm 6 = .int .i64 (p : Nat) ∧ tm 7 = .int .i64 m ∧ m + k = K ∧ p ≤ l.length ∧ LX none H H' [.own (.cmp (.row (.slice a m c) kInstr m xs) V), .own (.cmp (.row (.slice (some ⟨H.length, 0, none⟩) 0 6) kInstr 0 []) [])] ∧
      rdAll nfS K l.tail = (rdAll nfS k (l.drop p)).map fun w => (V ++ w.1, w.2)) (fun k => k) K ?_ ?_
    · refine ⟨some ⟨H1.length, 0, none⟩, 6, 0, [], [], 1, ?_, ?_, ?_, ?_, ?_, by omega, hlen, q2, ?_⟩
      · simp -implicitDefEqProofs [kk0, kk1, kk2, kk3, rW_block, ↓two_true, ↓two_false, rW_cond, rO_guard, oS_some, oM_some, mkv, aggAt, Nat.reduceLeDiff, Nat.reduceSub, Nat.reduceMul, cond_true, cond_false, Option.bind_some, List.length_append, List.length_cons, List.length_nil, List.append_assoc, List.cons_append, List.nil_append, List.set_cons_zero, List.set_cons_succ, List.size_toArray, List.all_cons, List.all_nil, List.drop_zero, List.drop_succ_cons, List.take_succ_cons, List.take_zero, List.mem_cons, Prod.mk.injEq, List.not_mem_nil, implies_true, List.getElem?_toArray, List.getElem?_cons_zero, List.getElem?_cons_succ, List.getElem?_nil, Option.getD_some, Option.getD_none, Nat.reduceEqDiff, reduceIte, Nat.reduceAdd, List.map_toArray, List.map_cons, List.map_nil, Bool.false_eq_true, Nat.reduceBEq, Option.map_some, Option.map_none, reduceCtorEq, al66, ap29_29, bs29_0, bs29_1, cv5_3, ix22, ld5, ld66, ln22, st66]
      · simp -implicitDefEqProofs [kk0, kk1, kk2, kk3, rW_block, ↓two_true, ↓two_false, rW_cond, rO_guard, oS_some, oM_some, mkv, aggAt, Nat.reduceLeDiff, Nat.reduceSub, Nat.reduceMul, cond_true, cond_false, Option.bind_some, List.length_append, List.length_cons, List.length_nil, List.append_assoc, List.cons_append, List.nil_append, List.set_cons_zero, List.set_cons_succ, List.size_toArray, List.all_cons, List.all_nil, List.drop_zero, List.drop_succ_cons, List.take_succ_cons, List.take_zero, List.mem_cons, Prod.mk.injEq, List.not_mem_nil, implies_true, List.getElem?_toArray, List.getElem?_cons_zero, List.getElem?_cons_succ, List.getElem?_nil, Option.getD_some, Option.getD_none, Nat.reduceEqDiff, reduceIte, Nat.reduceAdd, List.map_toArray, List.map_cons, List.map_nil, Bool.false_eq_true, Nat.reduceBEq, Option.map_some, Option.map_none, reduceCtorEq, al66, ap29_29, bs29_0, bs29_1, cv5_3, ix22, ld5, ld66, ln22, st66]
      · simp -implicitDefEqProofs [kk0, kk1, kk2, kk3, rW_block, ↓two_true, ↓two_false, rW_cond, rO_guard, oS_some, oM_some, mkv, aggAt, Nat.reduceLeDiff, Nat.reduceSub, Nat.reduceMul, cond_true, cond_false, Option.bind_some, List.length_append, List.length_cons, List.length_nil, List.append_assoc, List.cons_append, List.nil_append, List.set_cons_zero, List.set_cons_succ, List.size_toArray, List.all_cons, List.all_nil, List.drop_zero, List.drop_succ_cons, List.take_succ_cons, List.take_zero, List.mem_cons, Prod.mk.injEq, List.not_mem_nil, implies_true, List.getElem?_toArray, List.getElem?_cons_zero, List.getElem?_cons_succ, List.getElem?_nil, Option.getD_some, Option.getD_none, Nat.reduceEqDiff, reduceIte, Nat.reduceAdd, List.map_toArray, List.map_cons, List.map_nil, Bool.false_eq_true, Nat.reduceBEq, Option.map_some, Option.map_none, reduceCtorEq, al66, ap29_29, bs29_0, bs29_1, cv5_3, ix22, ld5, ld66, ln22, st66]
      · simp -implicitDefEqProofs [kk0, kk1, kk2, kk3, rW_block, ↓two_true, ↓two_false, rW_cond, rO_guard, oS_some, oM_some, mkv, aggAt, Nat.reduceLeDiff, Nat.reduceSub, Nat.reduceMul, cond_true, cond_false, Option.bind_some, List.length_append, List.length_cons, List.length_nil, List.append_assoc, List.cons_append, List.nil_append, List.set_cons_zero, List.set_cons_succ, List.size_toArray, List.all_cons, List.all_nil, List.drop_zero, List.drop_succ_cons, List.take_succ_cons, List.take_zero, List.mem_cons, Prod.mk.injEq, List.not_mem_nil, implies_true, List.getElem?_toArray, List.getElem?_cons_zero, List.getElem?_cons_succ, List.getElem?_nil, Option.getD_some, Option.getD_none, Nat.reduceEqDiff, reduceIte, Nat.reduceAdd, List.map_toArray, List.map_cons, List.map_nil, Bool.false_eq_true, Nat.reduceBEq, Option.map_some, Option.map_none, reduceCtorEq, al66, ap29_29, bs29_0, bs29_1, cv5_3, ix22, ld5, ld66, ln22, st66]
      · simp -implicitDefEqProofs [kk0, kk1, kk2, kk3, rW_block, ↓two_true, ↓two_false, rW_cond, rO_guard, oS_some, oM_some, mkv, aggAt, Nat.reduceLeDiff, Nat.reduceSub, Nat.reduceMul, cond_true, cond_false, Option.bind_some, List.length_append, List.length_cons, List.length_nil, List.append_assoc, List.cons_append, List.nil_append, List.set_cons_zero, List.set_cons_succ, List.size_toArray, List.all_cons, List.all_nil, List.drop_zero, List.drop_succ_cons, List.take_succ_cons, List.take_zero, List.mem_cons, Prod.mk.injEq, List.not_mem_nil, implies_true, List.getElem?_toArray, List.getElem?_cons_zero, List.getElem?_cons_succ, List.getElem?_nil, Option.getD_some, Option.getD_none, Nat.reduceEqDiff, reduceIte, Nat.reduceAdd, List.map_toArray, List.map_cons, List.map_nil, Bool.false_eq_true, Nat.reduceBEq, Option.map_some, Option.map_none, reduceCtorEq, al66, ap29_29, bs29_0, bs29_1, cv5_3, ix22, ld5, ld66, ln22, st66]
      · rw [List.drop_one]
        simp only [List.nil_append]
        cases rdAll nfS K l.tail <;> rfl
    · rintro k tm H3 ⟨a, c, m, xs, V, p, h0, h4, h5, h6, h7, hm, hp, q3, hr⟩
      have hrd3 := rd_ext hrd q3.ext
      simp -implicitDefEqProofs only [kz, kk0, kk1, kk2, kk3, ↓two_true, ↓two_false, mkv, aggAt, Nat.reduceLeDiff, Nat.reduceSub, Nat.reduceMul, implies_true, Nat.reduceEqDiff, reduceIte, Nat.reduceAdd, Nat.reduceBEq, reduceCtorEq, al66, ap29_29, bs29_0, bs29_1, cv5_3, ix22, ld5, ld66, ln22, st66, h0, h4, h5, h6, h7, hrd3, hc0, wK, z0, if_pos g0, Nat.zero_mul]
      refine two_intro (fun u2 => ?_) (fun u2 => ?_)
      · have hk1 : 0 < k := by have h5 := of_decide_eq_true u2; omega
        obtain ⟨k, rfl⟩ : ∃ k', k = k' + 1 := ⟨k - 1, by omega⟩
        have wm : IntKind.i64.wrap ((m : Int) + 1) = ((m + 1 : Nat) : Int) := IntWalk.i64_in ((m : Int) + 1) (by omega)
        try simp -implicitDefEqProofs only [kz, kk0, kk1, kk2, kk3, ↓two_true, ↓two_false, mkv, aggAt, Nat.reduceLeDiff, Nat.reduceSub, Nat.reduceMul, implies_true, Nat.reduceEqDiff, reduceIte, Nat.reduceAdd, Nat.reduceBEq, reduceCtorEq, al66, ap29_29, bs29_0, bs29_1, cv5_3, ix22, ld5, ld66, ln22, st66, h0, h4, h5, h6, h7]
        refine (l11Read_ok (hv0.ext q3.ext) hy hl hp).mono ?_
        rintro _ H4 ⟨op, ia, is, io, iw, pv, nums, nx, rfl, ld, hnl, hm2⟩
        have q4 := q3.join ld
        simp only [List.map_cons, List.map_nil, List.cons_append, List.nil_append] at q4
        obtain ⟨pa, pc, rfl⟩ := (q4.own 0 rfl).isSlice
        simp -implicitDefEqProofs only [kz, kk0, kk1, kk2, kk3, ↓two_true, ↓two_false, mkv, aggAt, Nat.reduceLeDiff, Nat.reduceSub, Nat.reduceMul, implies_true, Nat.reduceEqDiff, reduceIte, Nat.reduceAdd, Nat.reduceBEq, reduceCtorEq, al66, ap29_29, bs29_0, bs29_1, cv5_3, ix22, ld5, ld66, ln22, st66, h0, h4, h5, h6, h7]
        refine st_box q4 fun H5 q5 => ?_
        simp -implicitDefEqProofs only [kz, kk0, kk1, kk2, kk3, ↓two_true, ↓two_false, mkv, aggAt, Nat.reduceLeDiff, Nat.reduceSub, Nat.reduceMul, implies_true, Nat.reduceEqDiff, reduceIte, Nat.reduceAdd, Nat.reduceBEq, reduceCtorEq, al66, ap29_29, bs29_0, bs29_1, cv5_3, ix22, ld5, ld66, ln22, st66, h0, h4, h5, h6, h7, q5.rd 0 rfl]
        refine st_set q5 0 rfl fun H6 q6 => ?_
        simp only [List.set_cons_zero] at q6
        simp -implicitDefEqProofs only [kz, kk0, kk1, kk2, kk3, ↓two_true, ↓two_false, mkv, aggAt, Nat.reduceLeDiff, Nat.reduceSub, Nat.reduceMul, implies_true, Nat.reduceEqDiff, reduceIte, Nat.reduceAdd, Nat.reduceBEq, reduceCtorEq, al66, ap29_29, bs29_0, bs29_1, cv5_3, ix22, ld5, ld66, ln22, st66, h0, h4, h5, h6, h7, q6.rd 0 rfl]
        cases hi : rdIns nfS (l.drop p) with
        | none =>
          rw [hi] at hm2
          simp only at hm2
          subst hm2
          rw [rdAll_bad hi] at hr
          have hS := rdS_bad hKD hn (by rw [hr]; rfl)
          rw [hS]
          obtain ⟨nw, hV⟩ := q6.new 3 rfl
          have hm1 : decide ((-1 : Int) < 0) = true := rfl
          simp -implicitDefEqProofs only [kz, kk0, kk1, kk2, kk3, ↓two_true, ↓two_false, mkv, aggAt, Nat.reduceLeDiff, Nat.reduceSub, Nat.reduceMul, implies_true, Nat.reduceEqDiff, reduceIte, Nat.reduceAdd, Nat.reduceBEq, reduceCtorEq, al66, ap29_29, bs29_0, bs29_1, cv5_3, ix22, ld5, ld66, ln22, st66, h0, h4, h5, h6, h7, hm1]
          exact ⟨⟨_, 0, [], rfl, nw, rfl, by omega⟩, q6.ext⟩
        | some z =>
          rw [hi] at hm2
          simp only at hm2
          obtain ⟨hz, p2, rfl, hp2, hz2⟩ := hm2
          have hneg : decide (((p2 : Nat) : Int) < 0) = false := decide_eq_false (by omega)
          simp -implicitDefEqProofs only [kz, kk0, kk1, kk2, kk3, ↓two_true, ↓two_false, mkv, aggAt, Nat.reduceLeDiff, Nat.reduceSub, Nat.reduceMul, implies_true, Nat.reduceEqDiff, reduceIte, Nat.reduceAdd, Nat.reduceBEq, reduceCtorEq, al66, ap29_29, bs29_0, bs29_1, cv5_3, ix22, ld5, ld66, ln22, st66, h0, h4, h5, h6, h7, hneg, q6.rd 0 rfl]
          refine st_cellsX ?_
          simp -implicitDefEqProofs only [kz, kk0, kk1, kk2, kk3, ↓two_true, ↓two_false, mkv, aggAt, Nat.reduceLeDiff, Nat.reduceSub, Nat.reduceMul, implies_true, Nat.reduceEqDiff, reduceIte, Nat.reduceAdd, Nat.reduceBEq, reduceCtorEq, al66, ap29_29, bs29_0, bs29_1, cv5_3, ix22, ld5, ld66, ln22, st66, h0, h4, h5, h6, h7]
          have q7 := q6.sel2 [2, 1, 3] (by decide) rfl
          simp only [List.filterMap_cons, List.filterMap_nil, List.getElem?_cons_zero, List.getElem?_cons_succ] at q7
          have hrk := (q7.own 1 rfl).kok (by omega)
          refine st_insC (s := 6) rfl q7 ⟨_, _, rfl, ⟨_, rfl⟩, _, _, rfl, ⟨_, rfl⟩, _, _, rfl, ⟨_, rfl⟩, _, _, rfl, ⟨_, rfl⟩, _, _, rfl, ⟨_, rfl⟩, _, _, rfl, hrk.1, rfl⟩ ?_ ?_ ?_ (by omega) fun b8 H8 q8 => ?_
          · simp only [List.forall_mem_cons, List.not_mem_nil, false_implies, implies_true, and_true]
            exact ⟨.inl ⟨_, rfl⟩, .inl ⟨_, rfl⟩, .inl ⟨_, rfl⟩, .inl ⟨_, rfl⟩, .inl ⟨_, rfl⟩, hrk.2.1⟩
          · simp [Dj, blkOf]
          · simp only [List.forall_mem_cons, List.not_mem_nil, false_implies, implies_true, and_true]
            exact ⟨fun b hb => by simp [blkOf] at hb, fun b hb => by simp [blkOf] at hb, fun b hb => by simp [blkOf] at hb, fun b hb => by simp [blkOf] at hb, fun b hb => by simp [blkOf] at hb, fun b hb => hb⟩
          · simp -implicitDefEqProofs only [kz, kk0, kk1, kk2, kk3, ↓two_true, ↓two_false, mkv, aggAt, Nat.reduceLeDiff, Nat.reduceSub, Nat.reduceMul, implies_true, Nat.reduceEqDiff, reduceIte, Nat.reduceAdd, Nat.reduceBEq, reduceCtorEq, al66, ap29_29, bs29_0, bs29_1, cv5_3, ix22, ld5, ld66, ln22, st66, h0, h4, h5, h6, h7, wm]
            simp only [List.map_cons, List.map_nil, cv_int, hrk.2.2] at q8
            obtain ⟨z1, z2⟩ := z
            simp only at hz hz2
            subst hz hz2
            refine ⟨k, by omega, _, _, m + 1, _, _, p2, rfl, rfl, rfl, by omega, hp2, q8, ?_⟩
            rw [hr]
            exact rdAll_ok hi
      · have hk0 : k = 0 := by have h5 := of_decide_eq_false u2; omega
        subst hk0
        simp only [rdAll, Option.map_some, List.append_nil] at hr
        have hS := rdS_go hKD hn hr
        have hmK : m = K := by omega
        subst hmK
        obtain ⟨nw, hV⟩ := q3.new 0 rfl
        have hp := specPack_ok nw.ot.frow (by omega)
        rw [hV] at hp
        try simp -implicitDefEqProofs only [kz, kk0, kk1, kk2, kk3, ↓two_true, ↓two_false, mkv, aggAt, Nat.reduceLeDiff, Nat.reduceSub, Nat.reduceMul, implies_true, Nat.reduceEqDiff, reduceIte, Nat.reduceAdd, Nat.reduceBEq, reduceCtorEq, al66, ap29_29, bs29_0, bs29_1, cv5_3, ix22, ld5, ld66, ln22, st66, h0, h4, h5, h6, h7]
        refine hp.mono ?_
        rintro _ H4 ⟨⟨w, rfl, bw⟩, hK4⟩
        have q4 := q3.extd hK4
        have c1 := bw.row.str (P := Try.prog) (s := 22) (d := 9) (e := 5) (by kernel_rfl) (by kernel_rfl) (by kernel_rfl)
        have c2 := (hv0.ext q4.ext).str (P := Try.prog) (s := 22) (d := 9) (e := 5) (by kernel_rfl) (by kernel_rfl) (by kernel_rfl)
        have bn := fun (x y : Operand) => bin_str_neq (P := Try.prog) (t := 9) (x := x) (y := y) (p := strOf (pkA (insL V m))) (q := strOf l)
        rw [str_beq byOk_pkA hy] at bn
        cases hc : cdOk (insL V m) with
        | false =>
          rw [hc, if_neg (by simp)] at hS
          rw [hS]
          simp -implicitDefEqProofs only [kz, kk0, kk1, kk2, kk3, ↓two_true, ↓two_false, mkv, aggAt, Nat.reduceLeDiff, Nat.reduceSub, Nat.reduceMul, implies_true, Nat.reduceEqDiff, reduceIte, Nat.reduceAdd, Nat.reduceBEq, reduceCtorEq, al66, ap29_29, bs29_0, bs29_1, cv5_3, ix22, ld5, ld66, ln22, st66, h0, h4, h5, h6, h7, hc, Bool.not_false]
          obtain ⟨nw, hV⟩ := q4.new 1 rfl
          exact ⟨⟨_, 0, [], rfl, nw, rfl, by omega⟩, q4.ext⟩
        | true =>
          simp -implicitDefEqProofs only [kz, kk0, kk1, kk2, kk3, ↓two_true, ↓two_false, mkv, aggAt, Nat.reduceLeDiff, Nat.reduceSub, Nat.reduceMul, implies_true, Nat.reduceEqDiff, reduceIte, Nat.reduceAdd, Nat.reduceBEq, reduceCtorEq, al66, ap29_29, bs29_0, bs29_1, cv5_3, ix22, ld5, ld66, ln22, st66, h0, h4, h5, h6, h7, hc, Bool.not_true, c1, c2, bn]
          rw [hc] at hS
          simp only [true_and] at hS
          refine two_intro (fun u3 => ?_) (fun u3 => ?_)
          · have hne : ¬ pkA (insL V m) = l := by simpa using u3
            rw [if_neg hne] at hS
            rw [hS]
            try simp -implicitDefEqProofs only [kz, kk0, kk1, kk2, kk3, ↓two_true, ↓two_false, mkv, aggAt, Nat.reduceLeDiff, Nat.reduceSub, Nat.reduceMul, implies_true, Nat.reduceEqDiff, reduceIte, Nat.reduceAdd, Nat.reduceBEq, reduceCtorEq, al66, ap29_29, bs29_0, bs29_1, cv5_3, ix22, ld5, ld66, ln22, st66, h0, h4, h5, h6, h7]
            obtain ⟨nw, hV⟩ := q4.new 1 rfl
            exact ⟨⟨_, 0, [], rfl, nw, rfl, by omega⟩, q4.ext⟩
          · have he : pkA (insL V m) = l := by simpa using u3
            rw [if_pos he] at hS
            rw [hS]
            try simp -implicitDefEqProofs only [kz, kk0, kk1, kk2, kk3, ↓two_true, ↓two_false, mkv, aggAt, Nat.reduceLeDiff, Nat.reduceSub, Nat.reduceMul, implies_true, Nat.reduceEqDiff, reduceIte, Nat.reduceAdd, Nat.reduceBEq, reduceCtorEq, al66, ap29_29, bs29_0, bs29_1, cv5_3, ix22, ld5, ld66, ln22, st66, h0, h4, h5, h6, h7]
            obtain ⟨nw, hV⟩ := q4.new 0 rfl
            exact ⟨⟨_, m, xs, rfl, nw, hV, by omega⟩, q4.ext⟩

theorem bts_of : ∀ {cs : List Value}, (∀ x ∈ cs, ∃ m : Int, x = .int .u8 m ∧ 0 ≤ m ∧ m ≤ 255) → ∃ l, cs = bts l ∧ byOk l
  | [], _ => ⟨[], rfl, fun x hx => by simp at hx⟩
  | c :: cs, h => by
    obtain ⟨l, rfl, hl⟩ := bts_of (cs := cs) fun x hx => h x (List.mem_cons_of_mem _ hx)
    obtain ⟨m, rfl, h1, h2⟩ := h c (List.mem_cons_self ..)
    refine ⟨m :: l, rfl, fun x hx => ?_⟩
    rcases List.mem_cons.1 hx with rfl | hx
    · exact ⟨h1, h2⟩
    · exact hl x hx
theorem rpBy {P : Program} {H : AH} {t e : TypeId} {v : Value} (h : RpV P H t v) (hu : P.underlying t = some (.slice e)) (he : P.underlying e = some (.int .u8)) (hc : P.cellsOf e = 1) : ∃ l, ByRow H v l ∧ byOk l := by
  obtain ⟨k, vs, h, rfl⟩ := h
  rcases h.slice hu with rfl | ⟨b, n, cs, rfl, h2, h3, h4, k, h5⟩
  · exact ⟨[], .inl ⟨by simp [mkV, hu], rfl⟩, fun x hx => by simp at hx⟩
  · rw [hc] at h3 h5
    have hcs : ∀ x ∈ cs, ∃ m : Int, x = .int .u8 m ∧ 0 ≤ m ∧ m ≤ 255 := fun x hx => by
      obtain ⟨j, hj, rfl⟩ := List.mem_iff_getElem.1 hx
      obtain ⟨m, h6, h7⟩ := (h5 j (by omega)).int he
      have h8 : cs[j]? = some (.int .u8 m) := by
        have := congrArg (fun l : List Value => l[0]?) h6
        simp only [List.getElem?_take_of_lt Nat.zero_lt_one, List.getElem?_drop, Nat.mul_one, Nat.add_zero, List.getElem?_cons_zero] at this
        exact this
      rw [List.getElem?_eq_getElem hj] at h8
      simp only [Option.some.injEq] at h8
      refine ⟨m, h8, ?_⟩
      simp [Lit.wf] at h7
      have e1 : IntKind.u8.min = 0 := rfl
      have e2 : IntKind.u8.max = 255 := rfl
      omega
    obtain ⟨l, rfl, hl⟩ := bts_of hcs
    rw [bts_len] at h3
    refine ⟨l, .inr ⟨b, 0, bts l, ?_, rd_ro h2, by rw [bts_len]; omega, by rw [List.drop_zero, List.take_of_length_le (by rw [bts_len]; exact Nat.le_refl _)]⟩, hl⟩
    simp [mkV, hu, hc, h3]

theorem rdR_cnt {l : List Int} (hb : byOk l) : cntF ((rdR l).getD []) ≤ 16777216 := by
  cases l with
  | nil => simp [rdR, cntF]
  | cons x t =>
    have hx := hb x (List.mem_cons_self ..)
    simp only [rdR]
    cases h : rdAll nfI x.toNat t with
    | none => simp [cntF]
    | some z =>
      obtain ⟨V, r⟩ := z
      have h1 := (rdAll_len hb.tail h).2
      cases r with
      | nil =>
        simp only
        split
        · simp only [Option.getD_some]; omega
        · simp [cntF]
      | cons y s => simp [cntF]

set_option maxHeartbeats 4000000 in
theorem law4 : LawA Try.prog 4 [22] := by
  intro H vs hro h
  obtain ⟨v, vs, rfl, h1, h2⟩ := h.cons
  obtain rfl := h2.nil
  obtain ⟨l, hv, hy⟩ := rpBy h1 Try.underlying22 Try.underlying5 (by kernel_rfl)
  clear h1 h2 hro
  obtain ⟨a0a, a0c, rfl, -⟩ := hv.op
  have vlt : ∀ b, blkOf (.slice a0a l.length a0c) = some b → b < H.length := fun b hb => by
    rcases hv with ⟨e, _⟩ | ⟨b', o, cs, e, h1, _⟩
    · rw [e] at hb; simp [blkOf] at hb
    · rw [e] at hb; simp [blkOf] at hb; subst hb
      exact rd_lt (by rw [h1]; rfl)
  refine w4 ?_
  unfold k4
  simp -implicitDefEqProofs only [kz, kk0, kk1, kk2, kk3, ↓two_true, ↓two_false, oS_some, oM_some, mkv, aggAt, Nat.reduceLeDiff, Nat.reduceSub, Nat.reduceMul, implies_true, Nat.reduceEqDiff, reduceIte, Nat.reduceAdd, Nat.reduceBEq, reduceCtorEq, ln22, (bin_bool_eql ub4), (bin_bool_neq ub4)]
  refine two_intro (fun h => trivial) (fun h => ?_)
  have hl : l.length ≤ 1048576 := by have := of_decide_eq_false h; omega
  clear h
  have hcn := rdR_cnt hy
  have hSR := rdS_eq hy
  refine (toByteS_ok hv hl).mono ?_
  rintro _ H1 ⟨bt, -, hK1⟩
  rename_i t1
  have L1 := ext_len hK1
  have hv := hv.ext hK1
  simp -implicitDefEqProofs only [kz, kk0, kk1, kk2, kk3, ↓two_true, ↓two_false, oS_some, oM_some, mkv, aggAt, Nat.reduceLeDiff, Nat.reduceSub, Nat.reduceMul, implies_true, Nat.reduceEqDiff, reduceIte, Nat.reduceAdd, Nat.reduceBEq, reduceCtorEq, ln22, (bin_bool_eql ub4), (bin_bool_neq ub4)]
  refine (specRead_ok bt.row hy hl).mono ?_
  rintro _ H2 ⟨⟨w, m, ys, rfl, nw, hV, hm⟩, hK2⟩
  rw [hSR] at hV ⊢
  clear hSR bt
  have L2 := ext_len hK2
  have hv := hv.ext hK2
  have nl := nw.newL hV
  have f_w := nl.ok.1
  have r_w := nl.ok.2
  clear nl nw hV
  simp -implicitDefEqProofs only [kz, kk0, kk1, kk2, kk3, ↓two_true, ↓two_false, oS_some, oM_some, mkv, aggAt, Nat.reduceLeDiff, Nat.reduceSub, Nat.reduceMul, implies_true, Nat.reduceEqDiff, reduceIte, Nat.reduceAdd, Nat.reduceBEq, reduceCtorEq, ln22, (bin_bool_eql ub4), (bin_bool_neq ub4)]
  refine (toByteS_ok hv hl).mono ?_
  rintro x H3 ⟨bx, -, hK3⟩
  obtain ⟨t3, xlt, ht3⟩ : ∃ t3, (∀ b, blkOf x = some b → H2.length ≤ b ∧ b < t3) ∧ t3 = H3.length := ⟨_, fun b hb => bx.lt hb, rfl⟩
  have L3 := ext_len hK3
  have hv := hv.ext hK3
  have f_w := f_w.ext hK3
  simp -implicitDefEqProofs only [kz, kk0, kk1, kk2, kk3, ↓two_true, ↓two_false, oS_some, oM_some, mkv, aggAt, Nat.reduceLeDiff, Nat.reduceSub, Nat.reduceMul, implies_true, Nat.reduceEqDiff, reduceIte, Nat.reduceAdd, Nat.reduceBEq, reduceCtorEq, ln22, (bin_bool_eql ub4), (bin_bool_neq ub4)]
  refine (implRead_ok bx.row hy hl).mono ?_
  rintro _ H4 ⟨⟨g, m2, gys, rfl, nw, hV, hm2⟩, hK4⟩
  generalize hW : (rdR l).getD [] = V at *
  generalize hok : (rdR l).isSome = ok at *
  have L4 := ext_len hK4
  have hv := hv.ext hK4
  have f_w := f_w.ext hK4
  have bx := bx.ext hK4
  have nl := nw.newL hV
  have f_g := nl.ok.1
  have r_g := nl.ok.2
  clear nl nw hV
  simp -implicitDefEqProofs only [kz, kk0, kk1, kk2, kk3, ↓two_true, ↓two_false, oS_some, oM_some, mkv, aggAt, Nat.reduceLeDiff, Nat.reduceSub, Nat.reduceMul, implies_true, Nat.reduceEqDiff, reduceIte, Nat.reduceAdd, Nat.reduceBEq, reduceCtorEq, ln22, (bin_bool_eql ub4), (bin_bool_neq ub4)]
  refine (eqInstrS_th f_g.rd f_w.rd (by omega) (by omega)).mono ?_
  rintro _ H5 ⟨rfl, hK5⟩
  have L5 := ext_len hK5
  have hv := hv.ext hK5
  have f_w := f_w.ext hK5
  have f_g := f_g.ext hK5
  have bx := bx.ext hK5
  simp -implicitDefEqProofs only [kz, kk0, kk1, kk2, kk3, ↓two_true, ↓two_false, oS_some, oM_some, mkv, aggAt, Nat.reduceLeDiff, Nat.reduceSub, Nat.reduceMul, implies_true, Nat.reduceEqDiff, reduceIte, Nat.reduceAdd, Nat.reduceBEq, reduceCtorEq, ln22, (bin_bool_eql ub4), (bin_bool_neq ub4), beq_self_eq_true, bne_self_eq_false, Bool.not_true]
  refine (toByteS_ok hv hl).mono ?_
  rintro y H6 ⟨bY, -, hK6⟩
  have L6 := ext_len hK6
  have hv := hv.ext hK6
  have f_w := f_w.ext hK6
  have f_g := f_g.ext hK6
  have bx := bx.ext hK6
  simp -implicitDefEqProofs only [kz, kk0, kk1, kk2, kk3, ↓two_true, ↓two_false, oS_some, oM_some, mkv, aggAt, Nat.reduceLeDiff, Nat.reduceSub, Nat.reduceMul, implies_true, Nat.reduceEqDiff, reduceIte, Nat.reduceAdd, Nat.reduceBEq, reduceCtorEq, ln22, (bin_bool_eql ub4), (bin_bool_neq ub4)]
  refine (eqByteS_ok bx.row bY.row (by omega)).mono ?_
  rintro _ _ ⟨rfl, rfl⟩
  simp -implicitDefEqProofs only [kz, kk0, kk1, kk2, kk3, ↓two_true, ↓two_false, oS_some, oM_some, mkv, aggAt, Nat.reduceLeDiff, Nat.reduceSub, Nat.reduceMul, implies_true, Nat.reduceEqDiff, reduceIte, Nat.reduceAdd, Nat.reduceBEq, reduceCtorEq, ln22, (bin_bool_eql ub4), (bin_bool_neq ub4), beq_self_eq_true, bne_self_eq_false, Bool.not_true]
  refine (markByteS_ok bx (by omega) (by decide)).mono ?_
  rintro _ H7 ⟨rfl, -, L7, hfr⟩
  have f_w := f_w.frame (H' := H7) (lo := H2.length) (hi := t3) (fun b _ hn => hfr b (fun e => hn (xlt b e))) (r_w.off (by omega))
  have f_g := f_g.frame (H' := H7) (lo := H2.length) (hi := t3) (fun b _ hn => hfr b (fun e => hn (xlt b e))) (r_g.off (by omega))
  have hv := hv.same (H' := H7) fun b hb => by
    unfold rd
    rw [hfr b (fun e => by have := xlt b e; have := vlt b hb; omega)]
  clear hfr bx bY
  have d1 : decide ((1 : Int) + (l.length : Int) < 0) = false := decide_eq_false (by omega)
  simp -implicitDefEqProofs only [kz, kk0, kk1, kk2, kk3, ↓two_true, ↓two_false, oS_some, oM_some, mkv, aggAt, Nat.reduceLeDiff, Nat.reduceSub, Nat.reduceMul, implies_true, Nat.reduceEqDiff, reduceIte, Nat.reduceAdd, Nat.reduceBEq, reduceCtorEq, ln22, (bin_bool_eql ub4), (bin_bool_neq ub4), d1]
  refine (eqInstrS_th f_g.rd f_w.rd (by omega) (by omega)).mono ?_
  rintro _ H8 ⟨rfl, hK8⟩
  have L8 := ext_len hK8
  have hv := hv.ext hK8
  have f_w := f_w.ext hK8
  have f_g := f_g.ext hK8
  simp -implicitDefEqProofs only [kz, kk0, kk1, kk2, kk3, ↓two_true, ↓two_false, oS_some, oM_some, mkv, aggAt, Nat.reduceLeDiff, Nat.reduceSub, Nat.reduceMul, implies_true, Nat.reduceEqDiff, reduceIte, Nat.reduceAdd, Nat.reduceBEq, reduceCtorEq, ln22, (bin_bool_eql ub4), (bin_bool_neq ub4), beq_self_eq_true, bne_self_eq_false, Bool.not_true]
  have hc1 : cntF ([V] : List (List CV)).flatten = cntF V := by simp
  refine (markInstrS_u f_g (by omega) (by rw [hc1]; omega)).mono ?_
  rintro _ H9 ⟨rfl, gys1, V1, hm3, fm, vm⟩
  have L9 := hm3.len
  have hfr := (hm3.ok r_g).2
  have f_w := f_w.frame hfr (r_w.off (by omega))
  have f_g := fm
  have hv := hv.same (H' := H9) fun b hb => by
    have := vlt b hb
    unfold rd
    rw [hfr b (by omega) (fun h => by omega)]
  have hc2 : cntF ([V1] : List (List CV)).flatten = cntF V := by rw [vm, cntF_mark, hc1]
  have hh : heldF ([V1] : List (List CV)).flatten 1 = 1 + cntF V := by rw [vm, heldF_mark _ _ (by decide), hc1]
  have d2 : decide ((1 : Int) + (cntF V : Int) < 0) = false := decide_eq_false (by omega)
  clear hm3 fm vm hfr
  rw [hc1]
  simp -implicitDefEqProofs only [kz, kk0, kk1, kk2, kk3, ↓two_true, ↓two_false, oS_some, oM_some, mkv, aggAt, Nat.reduceLeDiff, Nat.reduceSub, Nat.reduceMul, implies_true, Nat.reduceEqDiff, reduceIte, Nat.reduceAdd, Nat.reduceBEq, reduceCtorEq, ln22, (bin_bool_eql ub4), (bin_bool_neq ub4)]
  refine (heldInstrS_u f_g (by omega) (by rw [hc2]; omega)).mono ?_
  rintro _ H10 ⟨rfl, hK10⟩
  have hv := hv.ext hK10
  have f_w := f_w.ext hK10
  have f_g := f_g.ext hK10
  rw [hh]
  simp -implicitDefEqProofs only [kz, kk0, kk1, kk2, kk3, ↓two_true, ↓two_false, oS_some, oM_some, mkv, aggAt, Nat.reduceLeDiff, Nat.reduceSub, Nat.reduceMul, implies_true, Nat.reduceEqDiff, reduceIte, Nat.reduceAdd, Nat.reduceBEq, reduceCtorEq, ln22, (bin_bool_eql ub4), (bin_bool_neq ub4), d2, bne_self_eq_false]
  refine (toByteS_ok hv hl).mono ?_
  rintro z H11 ⟨bz, -, hK11⟩
  have f_w := f_w.ext hK11
  have f_g := f_g.ext hK11
  simp -implicitDefEqProofs only [kz, kk0, kk1, kk2, kk3, ↓two_true, ↓two_false, oS_some, oM_some, mkv, aggAt, Nat.reduceLeDiff, Nat.reduceSub, Nat.reduceMul, implies_true, Nat.reduceEqDiff, reduceIte, Nat.reduceAdd, Nat.reduceBEq, reduceCtorEq, ln22, (bin_bool_eql ub4), (bin_bool_neq ub4)]
  refine (implRead_ok bz.row hy hl).mono ?_
  rintro _ H12 ⟨⟨h, m3, hys, rfl, nw, hV, hm3⟩, hK12⟩
  rw [hW] at hV
  rw [hok]
  have f_w := f_w.ext hK12
  have f_g := f_g.ext hK12
  have nl := nw.newL hV
  have f_h := nl.ok.1
  simp -implicitDefEqProofs only [kz, kk0, kk1, kk2, kk3, ↓two_true, ↓two_false, oS_some, oM_some, mkv, aggAt, Nat.reduceLeDiff, Nat.reduceSub, Nat.reduceMul, implies_true, Nat.reduceEqDiff, reduceIte, Nat.reduceAdd, Nat.reduceBEq, reduceCtorEq, ln22, (bin_bool_eql ub4), (bin_bool_neq ub4)]
  refine (eqInstrS_th f_h.rd f_w.rd (by omega) (by omega)).mono ?_
  rintro _ H13 ⟨rfl, hK13⟩
  have f_g := f_g.ext hK13
  simp -implicitDefEqProofs only [kz, kk0, kk1, kk2, kk3, ↓two_true, ↓two_false, oS_some, oM_some, mkv, aggAt, Nat.reduceLeDiff, Nat.reduceSub, Nat.reduceMul, implies_true, Nat.reduceEqDiff, reduceIte, Nat.reduceAdd, Nat.reduceBEq, reduceCtorEq, ln22, (bin_bool_eql ub4), (bin_bool_neq ub4), beq_self_eq_true, bne_self_eq_false, Bool.not_true]
  refine (heldInstrS_u f_g (by omega) (by rw [hc2]; omega)).mono ?_
  rintro _ H14 ⟨rfl, hK14⟩
  rw [hh]
  simp -implicitDefEqProofs only [kz, kk0, kk1, kk2, kk3, ↓two_true, ↓two_false, oS_some, oM_some, mkv, aggAt, Nat.reduceLeDiff, Nat.reduceSub, Nat.reduceMul, implies_true, Nat.reduceEqDiff, reduceIte, Nat.reduceAdd, Nat.reduceBEq, reduceCtorEq, ln22, (bin_bool_eql ub4), (bin_bool_neq ub4), d2, bne_self_eq_false]

end Go.Proofs.Ytdagncfnkenbfaa.AM
