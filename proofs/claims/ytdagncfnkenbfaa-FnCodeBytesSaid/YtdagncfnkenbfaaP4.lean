/- What the functions answer, part 4. -/
import Derived.Test.YtdagncfnkenbfaaP3
set_option linter.unusedVariables false
set_option linter.unusedSimpArgs false
set_option linter.defProp false
set_option maxRecDepth 100000
/- What the functions answer, part 4. -/
namespace Go.Proofs.Ytdagncfnkenbfaa.AM
open Go Go.Proofs.Ytdagncfnkenbfaa Go.Proofs
set_option maxHeartbeats 4000000 in
theorem l8DrawFun_ok {H : AH} {cb : Nat} {two' : Bool} (hc : Cur H cb) : CallsA Try.prog 95 #[.pointer (some ⟨cb, 0, none⟩), .bool two'] H (StrA cb H 5) := by
  refine w95 ?_
  unfold k95
  simp -implicitDefEqProofs only [kz, kk0, kk1, kk2, kk3, ↓two_true, ↓two_false, oS_some, oM_some, mkv, aggAt, Nat.reduceLeDiff, Nat.reduceSub, Nat.reduceMul, implies_true, Nat.reduceEqDiff, reduceIte, Nat.reduceAdd, Nat.reduceBEq, reduceCtorEq, bs98_2, bs98_6, bs98_9, bs98_10, bs98_11]
  refine CallsA.mono (l1Pick_ok 1 hc (by rfl) rfl (by decide)) ?_
  rintro _ H1 ⟨⟨s, rfl, hs⟩, hf⟩
  cases two' with
  | true =>
    simp -implicitDefEqProofs only [kz, kk0, kk1, kk2, kk3, ↓two_true, ↓two_false, oS_some, oM_some, mkv, aggAt, Nat.reduceLeDiff, Nat.reduceSub, Nat.reduceMul, implies_true, Nat.reduceEqDiff, reduceIte, Nat.reduceAdd, Nat.reduceBEq, reduceCtorEq, bs98_2, bs98_6, bs98_9, bs98_10, bs98_11, add_str]
    refine (l1Once_ok hf.cur).mono ?_
    rintro _ H2 ⟨⟨b, rfl⟩, hg⟩
    have hf := hf.trans hg
    simp -implicitDefEqProofs only [kz, kk0, kk1, kk2, kk3, ↓two_true, ↓two_false, oS_some, oM_some, mkv, aggAt, Nat.reduceLeDiff, Nat.reduceSub, Nat.reduceMul, implies_true, Nat.reduceEqDiff, reduceIte, Nat.reduceAdd, Nat.reduceBEq, reduceCtorEq, bs98_2, bs98_6, bs98_9, bs98_10, bs98_11, add_str]
    refine two_intro (fun _ => ?_) (fun _ => ?_)
    · refine ⟨by show 2 + s.size ≤ _; omega, ⟨_, rfl, ?_⟩, hf⟩
      rw [ByteArray.size_append]; show 2 + s.size ≤ _; omega
    · refine (l1Once_ok hf.cur).mono ?_
      rintro _ H3 ⟨⟨b3, rfl⟩, hg⟩
      have hf := hf.trans hg
      simp -implicitDefEqProofs only [kz, kk0, kk1, kk2, kk3, ↓two_true, ↓two_false, oS_some, oM_some, mkv, aggAt, Nat.reduceLeDiff, Nat.reduceSub, Nat.reduceMul, implies_true, Nat.reduceEqDiff, reduceIte, Nat.reduceAdd, Nat.reduceBEq, reduceCtorEq, bs98_2, bs98_6, bs98_9, bs98_10, bs98_11, add_str]
      refine two_intro (fun _ => ?_) (fun _ => ?_)
      · refine ⟨by show s.size + 3 ≤ _; omega, ?_⟩
        refine CallsA.mono (l1Pick_ok 1 hf.cur (by rfl) rfl (by decide)) ?_
        rintro _ H4 ⟨⟨z, rfl, hz⟩, hg⟩
        have hf := hf.trans hg
        have h1 : (s ++ ⟨#[32, 46, 32]⟩ : ByteArray).size = s.size + 3 := by rw [ByteArray.size_append]; rfl
        simp -implicitDefEqProofs only [kz, kk0, kk1, kk2, kk3, ↓two_true, ↓two_false, oS_some, oM_some, mkv, aggAt, Nat.reduceLeDiff, Nat.reduceSub, Nat.reduceMul, implies_true, Nat.reduceEqDiff, reduceIte, Nat.reduceAdd, Nat.reduceBEq, reduceCtorEq, bs98_2, bs98_6, bs98_9, bs98_10, bs98_11, add_str]
        refine ⟨by omega, ⟨_, rfl, ?_⟩, hf⟩
        rw [ByteArray.size_append]; omega
      · refine (l1Once_ok hf.cur).mono ?_
        rintro _ H4 ⟨⟨b4, rfl⟩, hg⟩
        have hf := hf.trans hg
        simp -implicitDefEqProofs only [kz, kk0, kk1, kk2, kk3, ↓two_true, ↓two_false, oS_some, oM_some, mkv, aggAt, Nat.reduceLeDiff, Nat.reduceSub, Nat.reduceMul, implies_true, Nat.reduceEqDiff, reduceIte, Nat.reduceAdd, Nat.reduceBEq, reduceCtorEq, bs98_2, bs98_6, bs98_9, bs98_10, bs98_11, add_str]
        refine two_intro (fun _ => ?_) (fun _ => ?_)
        · exact ⟨⟨_, rfl, by omega⟩, hf⟩
        · refine CallsA.mono (l1Pick_ok 1 hf.cur (by rfl) rfl (by decide)) ?_
          rintro _ H5 ⟨⟨z, rfl, hz⟩, hg⟩
          simp -implicitDefEqProofs only [kz, kk0, kk1, kk2, kk3, ↓two_true, ↓two_false, oS_some, oM_some, mkv, aggAt, Nat.reduceLeDiff, Nat.reduceSub, Nat.reduceMul, implies_true, Nat.reduceEqDiff, reduceIte, Nat.reduceAdd, Nat.reduceBEq, reduceCtorEq, bs98_2, bs98_6, bs98_9, bs98_10, bs98_11, add_str]
          exact ⟨⟨_, rfl, by omega⟩, hf.trans hg⟩
  | false =>
    simp -implicitDefEqProofs only [kz, kk0, kk1, kk2, kk3, ↓two_true, ↓two_false, oS_some, oM_some, mkv, aggAt, Nat.reduceLeDiff, Nat.reduceSub, Nat.reduceMul, implies_true, Nat.reduceEqDiff, reduceIte, Nat.reduceAdd, Nat.reduceBEq, reduceCtorEq, bs98_2, bs98_6, bs98_9, bs98_10, bs98_11, add_str]
    refine (l1Once_ok hf.cur).mono ?_
    rintro _ H2 ⟨⟨b, rfl⟩, hg⟩
    have hf := hf.trans hg
    simp -implicitDefEqProofs only [kz, kk0, kk1, kk2, kk3, ↓two_true, ↓two_false, oS_some, oM_some, mkv, aggAt, Nat.reduceLeDiff, Nat.reduceSub, Nat.reduceMul, implies_true, Nat.reduceEqDiff, reduceIte, Nat.reduceAdd, Nat.reduceBEq, reduceCtorEq, bs98_2, bs98_6, bs98_9, bs98_10, bs98_11, add_str]
    refine two_intro (fun _ => ?_) (fun _ => ?_)
    · refine ⟨by show s.size + 1 ≤ _; omega, ?_⟩
      refine CallsA.mono (l1Pick_ok 1 hf.cur (by rfl) rfl (by decide)) ?_
      rintro _ H4 ⟨⟨z, rfl, hz⟩, hg⟩
      have hf := hf.trans hg
      have h1 : (s ++ ⟨#[32]⟩ : ByteArray).size = s.size + 1 := by rw [ByteArray.size_append]; rfl
      simp -implicitDefEqProofs only [kz, kk0, kk1, kk2, kk3, ↓two_true, ↓two_false, oS_some, oM_some, mkv, aggAt, Nat.reduceLeDiff, Nat.reduceSub, Nat.reduceMul, implies_true, Nat.reduceEqDiff, reduceIte, Nat.reduceAdd, Nat.reduceBEq, reduceCtorEq, bs98_2, bs98_6, bs98_9, bs98_10, bs98_11, add_str]
      refine ⟨by omega, ⟨_, rfl, ?_⟩, hf⟩
      rw [ByteArray.size_append]; omega
    · refine CallsA.mono (l1Pick_ok 1 hf.cur (by rfl) rfl (by decide)) ?_
      rintro _ H5 ⟨⟨z, rfl, hz⟩, hg⟩
      simp -implicitDefEqProofs only [kz, kk0, kk1, kk2, kk3, ↓two_true, ↓two_false, oS_some, oM_some, mkv, aggAt, Nat.reduceLeDiff, Nat.reduceSub, Nat.reduceMul, implies_true, Nat.reduceEqDiff, reduceIte, Nat.reduceAdd, Nat.reduceBEq, reduceCtorEq, bs98_2, bs98_6, bs98_9, bs98_10, bs98_11, add_str]
      exact ⟨⟨_, rfl, by omega⟩, hf.trans hg⟩

theorem conv1 {H : AH} {x : Int} : aConv Try.prog 22 9 (.slice (some ⟨H.length, 0, none⟩) 1 1) (H ++ [⟨[.int .u8 x], .own⟩] : AH).get = some (.string (strOf [x])) :=
  ByRow.str (H := H ++ [⟨[.int .u8 x], .own⟩]) (l := [x]) (e := 5) (.inr ⟨H.length, 0, [.int .u8 x], rfl, rd_own (by rw [gt0]; rfl), by simp, rfl⟩) (by kernel_rfl) (by kernel_rfl) (by kernel_rfl)
theorem strOf_size {l : List Int} : (strOf l).size = l.length := by
  have h := congrArg List.length (strOf_list (l := l))
  rw [Array.length_toList, List.length_map] at h
  exact h
theorem l8Digits_pos {H : AH} {n : Int} (h : 0 ≤ n ∧ n ≤ 1000000000000) : CallsA Try.prog 105 #[.int .i64 n] H fun r H' => (∃ s : ByteArray, r = .string s ∧ s.size ≤ 13) ∧ ∃ K, H' = H ++ K := by
  have d1 : decide (n < 0) = false := decide_eq_false (by omega)
  refine w105 ?_
  unfold k105
  simp -implicitDefEqProofs only [kz, kk0, kk1, kk2, kk3, ↓two_true, ↓two_false, oS_some, oM_some, mkv, aggAt, Nat.reduceLeDiff, Nat.reduceSub, Nat.reduceMul, implies_true, Nat.reduceEqDiff, reduceIte, Nat.reduceAdd, Nat.reduceBEq, reduceCtorEq, bs22_1, cv3_5, d1]
  refine two_intro (fun _ => ⟨⟨_, rfl, by decide⟩, [], by simp⟩) (fun h0 => ?_)
  have h0 : n ≠ 0 := by simpa using h0
  refine rW_loop (σ := Nat × Nat) (fun (m, k) tm H' => tm 0 = .int .i64 m ∧ (∃ s : ByteArray, tm 3 = .string s ∧ s.size = k) ∧ k ≤ 13 ∧ m < 10 ^ (13 - k) ∧ ∃ K, H' = H ++ K) (fun x => x.1) (n.toNat, 0) ?_ ?_
  · refine ⟨?_, ⟨_, rfl, rfl⟩, by omega, ?_, [], by simp⟩
    · simp -implicitDefEqProofs only [kz, kk0, kk1, kk2, kk3, ↓two_true, ↓two_false, oS_some, oM_some, mkv, aggAt, Nat.reduceLeDiff, Nat.reduceSub, Nat.reduceMul, implies_true, Nat.reduceEqDiff, reduceIte, Nat.reduceAdd, Nat.reduceBEq, reduceCtorEq, bs22_1, cv3_5]
      congr 1; omega
    · have : (10 : Nat) ^ (13 - 0) = 10000000000000 := by decide
      omega
  · rintro ⟨m, k⟩ tm H1 ⟨t0, ⟨s, t3, hk⟩, hk13, hm, he⟩
    simp -implicitDefEqProofs only [kz, kk0, kk1, kk2, kk3, ↓two_true, ↓two_false, oS_some, oM_some, mkv, aggAt, Nat.reduceLeDiff, Nat.reduceSub, Nat.reduceMul, implies_true, Nat.reduceEqDiff, reduceIte, Nat.reduceAdd, Nat.reduceBEq, reduceCtorEq, bs22_1, cv3_5, t0, t3]
    refine two_intro (fun u => ?_) (fun u => ?_)
    · have hm0 : 0 < m := by have := of_decide_eq_true u; omega
      have hk12 : k < 13 := by
        rcases Nat.lt_or_ge k 13 with e | e
        · exact e
        · have : k = 13 := by omega
          subst this
          simp at hm; omega
      have hm13 : (10 : Nat) ^ (13 - k) ≤ 10 ^ 13 := Nat.pow_le_pow_right (by decide) (by omega)
      have h13 : (10 : Nat) ^ 13 = 10000000000000 := by decide
      have r1 : (m : Int).tmod 10 = ((m % 10 : Nat) : Int) := by rw [Int.tmod_eq_emod_of_nonneg (by omega)]; omega
      have q1 : (m : Int).tdiv 10 = ((m / 10 : Nat) : Int) := by rw [Int.tdiv_eq_ediv_of_nonneg (by omega)]; omega
      simp -implicitDefEqProofs only [kz, kk0, kk1, kk2, kk3, ↓two_true, ↓two_false, oS_some, oM_some, mkv, aggAt, Nat.reduceLeDiff, Nat.reduceSub, Nat.reduceMul, implies_true, Nat.reduceEqDiff, reduceIte, Nat.reduceAdd, Nat.reduceBEq, reduceCtorEq, bs22_1, cv3_5, t0, t3, bin_rem (show (10 : Int) ≠ 0 by decide), bin_quo (show (10 : Int) ≠ 0 by decide), r1, q1, conv1, add_str]
      have z1 : ∀ x : Int, (strOf [x]).size = 1 := fun x => strOf_size
      refine ⟨by rw [z1]; omega, (m / 10, k + 1), by simp only; omega, ?_, ⟨_, rfl, by rw [ByteArray.size_append, z1]; omega⟩, hk12, ?_, app_ext he⟩
      · rw [IntWalk.i64_in _ (by omega)]
      · have e1 : 13 - k = (13 - (k + 1)) + 1 := by omega
        rw [e1, Nat.pow_succ] at hm
        simp only
        generalize (10 : Nat) ^ (13 - (k + 1)) = w at *
        omega
    · try simp -implicitDefEqProofs only [kz, kk0, kk1, kk2, kk3, ↓two_true, ↓two_false, oS_some, oM_some, mkv, aggAt, Nat.reduceLeDiff, Nat.reduceSub, Nat.reduceMul, implies_true, Nat.reduceEqDiff, reduceIte, Nat.reduceAdd, Nat.reduceBEq, reduceCtorEq, bs22_1, cv3_5, t0, t3]
      exact ⟨⟨s, rfl, by omega⟩, he⟩
set_option maxHeartbeats 4000000 in
theorem l8Digits_ok {H : AH} {n : Int} (h : -1000000000000 ≤ n ∧ n ≤ 1000000000000) : CallsA Try.prog 105 #[.int .i64 n] H fun r H' => (∃ s : ByteArray, r = .string s ∧ s.size ≤ 14) ∧ ∃ K, H' = H ++ K := by
  rcases Int.lt_or_le n 0 with hn | hn
  · have d1 : decide (n < 0) = true := decide_eq_true hn
    have w1 : IntKind.i64.wrap (0 - n) = 0 - n := IntWalk.i64_in _ (by omega)
    refine w105 ?_
    unfold k105
    simp -implicitDefEqProofs only [kz, kk0, kk1, kk2, kk3, ↓two_true, ↓two_false, oS_some, oM_some, mkv, aggAt, Nat.reduceLeDiff, Nat.reduceSub, Nat.reduceMul, implies_true, Nat.reduceEqDiff, reduceIte, Nat.reduceAdd, Nat.reduceBEq, reduceCtorEq, bs22_1, cv3_5, d1, w1]
    refine (l8Digits_pos (by omega)).mono ?_
    rintro _ H1 ⟨⟨s, rfl, hs⟩, he⟩
    simp -implicitDefEqProofs only [kz, kk0, kk1, kk2, kk3, ↓two_true, ↓two_false, oS_some, oM_some, mkv, aggAt, Nat.reduceLeDiff, Nat.reduceSub, Nat.reduceMul, implies_true, Nat.reduceEqDiff, reduceIte, Nat.reduceAdd, Nat.reduceBEq, reduceCtorEq, bs22_1, cv3_5, add_str]
    refine ⟨by show 1 + s.size ≤ _; omega, ⟨_, rfl, ?_⟩, he⟩
    rw [ByteArray.size_append]; show 1 + s.size ≤ _; omega
  · refine (l8Digits_pos ⟨hn, h.2⟩).mono ?_
    rintro _ H1 ⟨⟨s, rfl, hs⟩, he⟩
    exact ⟨⟨s, rfl, by omega⟩, he⟩

set_option maxHeartbeats 4000000 in
theorem l8Op_step {cb d : Nat} {M M1 : Nat} (hM : 60 ≤ M) (h1 : d ≠ 0 → M1 + 4 ≤ M) (hM2 : M ≤ 1000000)
    (ih : d ≠ 0 → ∀ {H : AH}, Cur H cb → CallsA Try.prog 69 #[.pointer (some ⟨cb, 0, none⟩), .int .i64 ((d : Int) - 1)] H (StrA cb H M1)) {H : AH} (hc : Cur H cb) (hd : d ≤ 100) :
    CallsA Try.prog 93 #[.pointer (some ⟨cb, 0, none⟩), .int .i64 d] H (StrA cb H M) := by
  have wd : IntKind.i64.wrap ((d : Int) - 1) = (d : Int) - 1 := IntWalk.i64_in _ (by omega)
  refine w93 ?_
  unfold k93
  have hf := Frm.refl hc
  by_cases hd0 : d = 0
  · have dd : decide ((d : Int) > 0) = false := decide_eq_false (by omega)
    simp -implicitDefEqProofs only [kz, kk0, kk1, kk2, kk3, ↓two_true, ↓two_false, oS_some, oM_some, mkv, aggAt, Nat.reduceLeDiff, Nat.reduceSub, Nat.reduceMul, implies_true, Nat.reduceEqDiff, reduceIte, Nat.reduceAdd, Nat.reduceBEq, reduceCtorEq, bs98_3, bs98_6, add_str, wd, dd]
    refine (l1Once_ok hf.cur).mono ?_
    rintro _ H2 ⟨⟨b2, rfl⟩, hg⟩
    have hf := hf.trans hg
    simp -implicitDefEqProofs only [kz, kk0, kk1, kk2, kk3, ↓two_true, ↓two_false, oS_some, oM_some, mkv, aggAt, Nat.reduceLeDiff, Nat.reduceSub, Nat.reduceMul, implies_true, Nat.reduceEqDiff, reduceIte, Nat.reduceAdd, Nat.reduceBEq, reduceCtorEq, bs98_3, bs98_6, add_str]
    refine two_intro (fun _ => ?_) (fun _ => ?_)
    · refine CallsA.mono (l1Pick_ok 3 hf.cur (by rfl) rfl (by decide)) ?_
      rintro _ H4 ⟨⟨z, rfl, hz⟩, hg⟩
      simp -implicitDefEqProofs only [kz, kk0, kk1, kk2, kk3, ↓two_true, ↓two_false, oS_some, oM_some, mkv, aggAt, Nat.reduceLeDiff, Nat.reduceSub, Nat.reduceMul, implies_true, Nat.reduceEqDiff, reduceIte, Nat.reduceAdd, Nat.reduceBEq, reduceCtorEq, bs98_3, bs98_6, add_str]
      exact ⟨⟨_, rfl, by omega⟩, hf.trans hg⟩
    · refine (l1DrawNum_ok hf.cur).mono ?_
      rintro _ H3 ⟨⟨n, rfl, hn⟩, hg⟩
      have hf := hf.trans hg
      have hn' : -1000000000000 ≤ n ∧ n ≤ 1000000000000 := by simpa [numOk, inB] using hn
      simp -implicitDefEqProofs only [kz, kk0, kk1, kk2, kk3, ↓two_true, ↓two_false, oS_some, oM_some, mkv, aggAt, Nat.reduceLeDiff, Nat.reduceSub, Nat.reduceMul, implies_true, Nat.reduceEqDiff, reduceIte, Nat.reduceAdd, Nat.reduceBEq, reduceCtorEq, bs98_3, bs98_6, add_str]
      refine (l8Digits_ok hn').mono ?_
      rintro _ H4 ⟨⟨s, rfl, hs⟩, K4, rfl⟩
      have hf := hf.app (L := K4)
      simp -implicitDefEqProofs only [kz, kk0, kk1, kk2, kk3, ↓two_true, ↓two_false, oS_some, oM_some, mkv, aggAt, Nat.reduceLeDiff, Nat.reduceSub, Nat.reduceMul, implies_true, Nat.reduceEqDiff, reduceIte, Nat.reduceAdd, Nat.reduceBEq, reduceCtorEq, bs98_3, bs98_6, add_str]
      refine rW_loop (σ := Nat) (fun i tm H' => tm 0 = .pointer (some ⟨cb, 0, none⟩) ∧ (∃ s : ByteArray, tm 5 = .string s ∧ s.size ≤ 14 + 15 * i) ∧ tm 6 = .int .i64 i ∧ i ≤ 3 ∧ Frm cb H H') (fun i => 3 - i) 0 ?_ ?_
      · exact ⟨rfl, ⟨s, rfl, by omega⟩, rfl, by omega, hf⟩
      · clear hf hg hs hn hn'
        rintro i tm H5 ⟨t0, ⟨s, t5, hs⟩, t6, hi, hf⟩
        simp -implicitDefEqProofs only [kz, kk0, kk1, kk2, kk3, ↓two_true, ↓two_false, oS_some, oM_some, mkv, aggAt, Nat.reduceLeDiff, Nat.reduceSub, Nat.reduceMul, implies_true, Nat.reduceEqDiff, reduceIte, Nat.reduceAdd, Nat.reduceBEq, reduceCtorEq, bs98_3, bs98_6, add_str, t0, t5, t6]
        refine (l1Below_ok hf.cur).mono ?_
        rintro _ H6 ⟨⟨v, rfl, -, hv⟩, hg⟩
        have hv := hv (by decide)
        have hf := hf.trans hg
        simp -implicitDefEqProofs only [kz, kk0, kk1, kk2, kk3, ↓two_true, ↓two_false, oS_some, oM_some, mkv, aggAt, Nat.reduceLeDiff, Nat.reduceSub, Nat.reduceMul, implies_true, Nat.reduceEqDiff, reduceIte, Nat.reduceAdd, Nat.reduceBEq, reduceCtorEq, bs98_3, bs98_6, add_str, t0, t5, t6]
        refine two_intro (fun u => ?_) (fun u => ?_)
        · have hi3 : i < 3 := by have := of_decide_eq_true u; omega
          refine ⟨by show s.size + 1 ≤ _; omega, ?_⟩
          have e1 : (s ++ ⟨#[32]⟩ : ByteArray).size = s.size + 1 := by rw [ByteArray.size_append]; rfl
          generalize (s ++ ⟨#[32]⟩ : ByteArray) = s1 at *
          refine (l1Below_ok hf.cur).mono ?_
          rintro _ H7 ⟨⟨x, rfl, -, hx⟩, hg⟩
          have hx := hx (by decide)
          have hf := hf.trans hg
          have wx : IntKind.i64.wrap (x - 2) = x - 2 := IntWalk.i64_in _ (by omega)
          simp -implicitDefEqProofs only [kz, kk0, kk1, kk2, kk3, ↓two_true, ↓two_false, oS_some, oM_some, mkv, aggAt, Nat.reduceLeDiff, Nat.reduceSub, Nat.reduceMul, implies_true, Nat.reduceEqDiff, reduceIte, Nat.reduceAdd, Nat.reduceBEq, reduceCtorEq, bs98_3, bs98_6, add_str, t0, t5, t6, wx]
          refine (l8Digits_ok (by omega)).mono ?_
          rintro _ H8 ⟨⟨z, rfl, hz⟩, K8, rfl⟩
          have hf := hf.app (L := K8)
          have wi : IntKind.i64.wrap ((i : Int) + 1) = ((i + 1 : Nat) : Int) := IntWalk.i64_in ((i : Int) + 1) (by omega)
          simp -implicitDefEqProofs only [kz, kk0, kk1, kk2, kk3, ↓two_true, ↓two_false, oS_some, oM_some, mkv, aggAt, Nat.reduceLeDiff, Nat.reduceSub, Nat.reduceMul, implies_true, Nat.reduceEqDiff, reduceIte, Nat.reduceAdd, Nat.reduceBEq, reduceCtorEq, bs98_3, bs98_6, add_str, t0, t5, t6, wi]
          refine ⟨by omega, i + 1, by omega, ?_⟩
          first | exact ⟨⟨_, rfl, by rw [ByteArray.size_append]; omega⟩, rfl, hi3, hf⟩ | exact ⟨⟨_, rfl, by rw [ByteArray.size_append]; omega⟩, hi3, hf⟩
        · try simp -implicitDefEqProofs only [kz, kk0, kk1, kk2, kk3, ↓two_true, ↓two_false, oS_some, oM_some, mkv, aggAt, Nat.reduceLeDiff, Nat.reduceSub, Nat.reduceMul, implies_true, Nat.reduceEqDiff, reduceIte, Nat.reduceAdd, Nat.reduceBEq, reduceCtorEq, bs98_3, bs98_6, add_str, t0, t5, t6]
          refine (l1Once_ok hf.cur).mono ?_
          rintro _ H7 ⟨⟨b7, rfl⟩, hg⟩
          have hf := hf.trans hg
          simp -implicitDefEqProofs only [kz, kk0, kk1, kk2, kk3, ↓two_true, ↓two_false, oS_some, oM_some, mkv, aggAt, Nat.reduceLeDiff, Nat.reduceSub, Nat.reduceMul, implies_true, Nat.reduceEqDiff, reduceIte, Nat.reduceAdd, Nat.reduceBEq, reduceCtorEq, bs98_3, bs98_6, add_str, t0, t5, t6]
          refine two_intro (fun _ => ?_) (fun _ => ?_)
          · refine CallsA.mono (l1Pick_ok 3 hf.cur (by rfl) rfl (by decide)) ?_
            rintro _ H8 ⟨⟨z, rfl, hz⟩, hg⟩
            simp -implicitDefEqProofs only [kz, kk0, kk1, kk2, kk3, ↓two_true, ↓two_false, oS_some, oM_some, mkv, aggAt, Nat.reduceLeDiff, Nat.reduceSub, Nat.reduceMul, implies_true, Nat.reduceEqDiff, reduceIte, Nat.reduceAdd, Nat.reduceBEq, reduceCtorEq, bs98_3, bs98_6, add_str, t0, t5, t6]
            exact ⟨⟨_, rfl, by omega⟩, hf.trans hg⟩
          · exact ⟨⟨s, rfl, by omega⟩, hf⟩
  · have dd : decide ((d : Int) > 0) = true := decide_eq_true (by omega)
    simp -implicitDefEqProofs only [kz, kk0, kk1, kk2, kk3, ↓two_true, ↓two_false, oS_some, oM_some, mkv, aggAt, Nat.reduceLeDiff, Nat.reduceSub, Nat.reduceMul, implies_true, Nat.reduceEqDiff, reduceIte, Nat.reduceAdd, Nat.reduceBEq, reduceCtorEq, bs98_3, bs98_6, add_str, wd, dd]
    refine (l1Once_ok hf.cur).mono ?_
    rintro _ H1 ⟨⟨b1, rfl⟩, hg⟩
    have hf := hf.trans hg
    simp -implicitDefEqProofs only [kz, kk0, kk1, kk2, kk3, ↓two_true, ↓two_false, oS_some, oM_some, mkv, aggAt, Nat.reduceLeDiff, Nat.reduceSub, Nat.reduceMul, implies_true, Nat.reduceEqDiff, reduceIte, Nat.reduceAdd, Nat.reduceBEq, reduceCtorEq, bs98_3, bs98_6, add_str, wd]
    refine two_intro (fun _ => ?_) (fun _ => ?_)
    · refine (ih hd0 hf.cur).mono ?_
      rintro _ H2 ⟨⟨s, rfl, hs⟩, hg⟩
      have hm := h1 hd0
      simp -implicitDefEqProofs only [kz, kk0, kk1, kk2, kk3, ↓two_true, ↓two_false, oS_some, oM_some, mkv, aggAt, Nat.reduceLeDiff, Nat.reduceSub, Nat.reduceMul, implies_true, Nat.reduceEqDiff, reduceIte, Nat.reduceAdd, Nat.reduceBEq, reduceCtorEq, bs98_3, bs98_6, add_str, wd]
      have e1 : (⟨#[40, 32]⟩ ++ s : ByteArray).size = s.size + 2 := by rw [ByteArray.size_append]; show 2 + s.size = _; omega
      refine ⟨by show 2 + s.size ≤ _; omega, ⟨by rw [e1]; show s.size + 2 + 2 ≤ _; omega, ⟨_, rfl, ?_⟩, hf.trans hg⟩⟩
      rw [ByteArray.size_append, e1]; show s.size + 2 + 2 ≤ _; omega
    · refine (l1Once_ok hf.cur).mono ?_
      rintro _ H2 ⟨⟨b2, rfl⟩, hg⟩
      have hf := hf.trans hg
      simp -implicitDefEqProofs only [kz, kk0, kk1, kk2, kk3, ↓two_true, ↓two_false, oS_some, oM_some, mkv, aggAt, Nat.reduceLeDiff, Nat.reduceSub, Nat.reduceMul, implies_true, Nat.reduceEqDiff, reduceIte, Nat.reduceAdd, Nat.reduceBEq, reduceCtorEq, bs98_3, bs98_6, add_str]
      refine two_intro (fun _ => ?_) (fun _ => ?_)
      · refine CallsA.mono (l1Pick_ok 3 hf.cur (by rfl) rfl (by decide)) ?_
        rintro _ H4 ⟨⟨z, rfl, hz⟩, hg⟩
        simp -implicitDefEqProofs only [kz, kk0, kk1, kk2, kk3, ↓two_true, ↓two_false, oS_some, oM_some, mkv, aggAt, Nat.reduceLeDiff, Nat.reduceSub, Nat.reduceMul, implies_true, Nat.reduceEqDiff, reduceIte, Nat.reduceAdd, Nat.reduceBEq, reduceCtorEq, bs98_3, bs98_6, add_str]
        exact ⟨⟨_, rfl, by omega⟩, hf.trans hg⟩
      · refine (l1DrawNum_ok hf.cur).mono ?_
        rintro _ H3 ⟨⟨n, rfl, hn⟩, hg⟩
        have hf := hf.trans hg
        have hn' : -1000000000000 ≤ n ∧ n ≤ 1000000000000 := by simpa [numOk, inB] using hn
        simp -implicitDefEqProofs only [kz, kk0, kk1, kk2, kk3, ↓two_true, ↓two_false, oS_some, oM_some, mkv, aggAt, Nat.reduceLeDiff, Nat.reduceSub, Nat.reduceMul, implies_true, Nat.reduceEqDiff, reduceIte, Nat.reduceAdd, Nat.reduceBEq, reduceCtorEq, bs98_3, bs98_6, add_str]
        refine (l8Digits_ok hn').mono ?_
        rintro _ H4 ⟨⟨s, rfl, hs⟩, K4, rfl⟩
        have hf := hf.app (L := K4)
        simp -implicitDefEqProofs only [kz, kk0, kk1, kk2, kk3, ↓two_true, ↓two_false, oS_some, oM_some, mkv, aggAt, Nat.reduceLeDiff, Nat.reduceSub, Nat.reduceMul, implies_true, Nat.reduceEqDiff, reduceIte, Nat.reduceAdd, Nat.reduceBEq, reduceCtorEq, bs98_3, bs98_6, add_str]
        refine rW_loop (σ := Nat) (fun i tm H' => tm 0 = .pointer (some ⟨cb, 0, none⟩) ∧ (∃ s : ByteArray, tm 5 = .string s ∧ s.size ≤ 14 + 15 * i) ∧ tm 6 = .int .i64 i ∧ i ≤ 3 ∧ Frm cb H H') (fun i => 3 - i) 0 ?_ ?_
        · exact ⟨rfl, ⟨s, rfl, by omega⟩, rfl, by omega, hf⟩
        · clear hf hg hs hn hn'
          rintro i tm H5 ⟨t0, ⟨s, t5, hs⟩, t6, hi, hf⟩
          simp -implicitDefEqProofs only [kz, kk0, kk1, kk2, kk3, ↓two_true, ↓two_false, oS_some, oM_some, mkv, aggAt, Nat.reduceLeDiff, Nat.reduceSub, Nat.reduceMul, implies_true, Nat.reduceEqDiff, reduceIte, Nat.reduceAdd, Nat.reduceBEq, reduceCtorEq, bs98_3, bs98_6, add_str, t0, t5, t6]
          refine (l1Below_ok hf.cur).mono ?_
          rintro _ H6 ⟨⟨v, rfl, -, hv⟩, hg⟩
          have hv := hv (by decide)
          have hf := hf.trans hg
          simp -implicitDefEqProofs only [kz, kk0, kk1, kk2, kk3, ↓two_true, ↓two_false, oS_some, oM_some, mkv, aggAt, Nat.reduceLeDiff, Nat.reduceSub, Nat.reduceMul, implies_true, Nat.reduceEqDiff, reduceIte, Nat.reduceAdd, Nat.reduceBEq, reduceCtorEq, bs98_3, bs98_6, add_str, t0, t5, t6]
          refine two_intro (fun u => ?_) (fun u => ?_)
          · have hi3 : i < 3 := by have := of_decide_eq_true u; omega
            refine ⟨by show s.size + 1 ≤ _; omega, ?_⟩
            have e1 : (s ++ ⟨#[32]⟩ : ByteArray).size = s.size + 1 := by rw [ByteArray.size_append]; rfl
            generalize (s ++ ⟨#[32]⟩ : ByteArray) = s1 at *
            refine (l1Below_ok hf.cur).mono ?_
            rintro _ H7 ⟨⟨x, rfl, -, hx⟩, hg⟩
            have hx := hx (by decide)
            have hf := hf.trans hg
            have wx : IntKind.i64.wrap (x - 2) = x - 2 := IntWalk.i64_in _ (by omega)
            simp -implicitDefEqProofs only [kz, kk0, kk1, kk2, kk3, ↓two_true, ↓two_false, oS_some, oM_some, mkv, aggAt, Nat.reduceLeDiff, Nat.reduceSub, Nat.reduceMul, implies_true, Nat.reduceEqDiff, reduceIte, Nat.reduceAdd, Nat.reduceBEq, reduceCtorEq, bs98_3, bs98_6, add_str, t0, t5, t6, wx]
            refine (l8Digits_ok (by omega)).mono ?_
            rintro _ H8 ⟨⟨z, rfl, hz⟩, K8, rfl⟩
            have hf := hf.app (L := K8)
            have wi : IntKind.i64.wrap ((i : Int) + 1) = ((i + 1 : Nat) : Int) := IntWalk.i64_in ((i : Int) + 1) (by omega)
            simp -implicitDefEqProofs only [kz, kk0, kk1, kk2, kk3, ↓two_true, ↓two_false, oS_some, oM_some, mkv, aggAt, Nat.reduceLeDiff, Nat.reduceSub, Nat.reduceMul, implies_true, Nat.reduceEqDiff, reduceIte, Nat.reduceAdd, Nat.reduceBEq, reduceCtorEq, bs98_3, bs98_6, add_str, t0, t5, t6, wi]
            refine ⟨by omega, i + 1, by omega, ?_⟩
            first | exact ⟨⟨_, rfl, by rw [ByteArray.size_append]; omega⟩, rfl, hi3, hf⟩ | exact ⟨⟨_, rfl, by rw [ByteArray.size_append]; omega⟩, hi3, hf⟩
          · try simp -implicitDefEqProofs only [kz, kk0, kk1, kk2, kk3, ↓two_true, ↓two_false, oS_some, oM_some, mkv, aggAt, Nat.reduceLeDiff, Nat.reduceSub, Nat.reduceMul, implies_true, Nat.reduceEqDiff, reduceIte, Nat.reduceAdd, Nat.reduceBEq, reduceCtorEq, bs98_3, bs98_6, add_str, t0, t5, t6]
            refine (l1Once_ok hf.cur).mono ?_
            rintro _ H7 ⟨⟨b7, rfl⟩, hg⟩
            have hf := hf.trans hg
            simp -implicitDefEqProofs only [kz, kk0, kk1, kk2, kk3, ↓two_true, ↓two_false, oS_some, oM_some, mkv, aggAt, Nat.reduceLeDiff, Nat.reduceSub, Nat.reduceMul, implies_true, Nat.reduceEqDiff, reduceIte, Nat.reduceAdd, Nat.reduceBEq, reduceCtorEq, bs98_3, bs98_6, add_str, t0, t5, t6]
            refine two_intro (fun _ => ?_) (fun _ => ?_)
            · refine CallsA.mono (l1Pick_ok 3 hf.cur (by rfl) rfl (by decide)) ?_
              rintro _ H8 ⟨⟨z, rfl, hz⟩, hg⟩
              simp -implicitDefEqProofs only [kz, kk0, kk1, kk2, kk3, ↓two_true, ↓two_false, oS_some, oM_some, mkv, aggAt, Nat.reduceLeDiff, Nat.reduceSub, Nat.reduceMul, implies_true, Nat.reduceEqDiff, reduceIte, Nat.reduceAdd, Nat.reduceBEq, reduceCtorEq, bs98_3, bs98_6, add_str, t0, t5, t6]
              exact ⟨⟨_, rfl, by omega⟩, hf.trans hg⟩
            · exact ⟨⟨s, rfl, by omega⟩, hf⟩
set_option maxHeartbeats 4000000 in
theorem l8Line_step {cb d : Nat} {M M1 : Nat} (h1 : if d = 0 then M1 ≤ M else 2 * M1 + 8 ≤ M) (h60 : 60 ≤ M) (hM2 : M ≤ 1000000)
    (io : ∀ {H : AH}, Cur H cb → CallsA Try.prog 93 #[.pointer (some ⟨cb, 0, none⟩), .int .i64 ((d - 1 : Nat) : Int)] H (StrA cb H M1))
    (il : d ≠ 0 → ∀ {H : AH}, Cur H cb → CallsA Try.prog 69 #[.pointer (some ⟨cb, 0, none⟩), .int .i64 ((d - 1 : Nat) : Int)] H (StrA cb H M1)) {H : AH} (hc : Cur H cb) (hd : d ≤ 100) :
    CallsA Try.prog 69 #[.pointer (some ⟨cb, 0, none⟩), .int .i64 d] H (StrA cb H M) := by
  refine w69 ?_
  unfold k69
  have hf := Frm.refl hc
  by_cases hd0 : d = 0
  · subst hd0
    rw [if_pos rfl] at h1
    have dd : decide (((0 : Nat) : Int) ≤ 0) = true := rfl
    simp -implicitDefEqProofs only [kz, kk0, kk1, kk2, kk3, ↓two_true, ↓two_false, oS_some, oM_some, mkv, aggAt, Nat.reduceLeDiff, Nat.reduceSub, Nat.reduceMul, implies_true, Nat.reduceEqDiff, reduceIte, Nat.reduceAdd, Nat.reduceBEq, reduceCtorEq, bs98_3, bs98_12, add_str, dd]
    refine (io hc).mono ?_
    rintro _ H1 ⟨⟨s, rfl, hs⟩, hg⟩
    simp -implicitDefEqProofs only [kz, kk0, kk1, kk2, kk3, ↓two_true, ↓two_false, oS_some, oM_some, mkv, aggAt, Nat.reduceLeDiff, Nat.reduceSub, Nat.reduceMul, implies_true, Nat.reduceEqDiff, reduceIte, Nat.reduceAdd, Nat.reduceBEq, reduceCtorEq, bs98_3, bs98_12, add_str]
    exact ⟨⟨s, rfl, by omega⟩, hg⟩
  · rw [if_neg hd0] at h1
    have il := fun {H : AH} => il hd0 (H := H)
    have dd : decide ((d : Int) ≤ 0) = false := decide_eq_false (by omega)
    have wd : IntKind.i64.wrap ((d : Int) - 1) = ((d - 1 : Nat) : Int) := by rw [IntWalk.i64_in _ (by omega)]; omega
    generalize d - 1 = e at *
    simp -implicitDefEqProofs only [kz, kk0, kk1, kk2, kk3, ↓two_true, ↓two_false, oS_some, oM_some, mkv, aggAt, Nat.reduceLeDiff, Nat.reduceSub, Nat.reduceMul, implies_true, Nat.reduceEqDiff, reduceIte, Nat.reduceAdd, Nat.reduceBEq, reduceCtorEq, bs98_3, bs98_12, add_str, dd, wd]
    refine (l1Below_ok hf.cur).mono ?_
    rintro _ H1 ⟨⟨v, rfl, -, hv⟩, hg⟩
    have hv := hv (by decide)
    have hf := hf.trans hg
    simp -implicitDefEqProofs only [kz, kk0, kk1, kk2, kk3, ↓two_true, ↓two_false, oS_some, oM_some, mkv, aggAt, Nat.reduceLeDiff, Nat.reduceSub, Nat.reduceMul, implies_true, Nat.reduceEqDiff, reduceIte, Nat.reduceAdd, Nat.reduceBEq, reduceCtorEq, bs98_3, bs98_12, add_str, wd]
    have c0 : ∀ {H1 : AH}, Frm cb H H1 → CallsA Try.prog 94 #[.pointer (some ⟨cb, 0, none⟩), .slice (some ⟨H1.length, 0, none⟩) 3 1] (H1 ++ [⟨[.string ⟨#[65]⟩, .string ⟨#[66]⟩, .string ⟨#[67]⟩], .own⟩]) (StrA cb H1 1) := fun hf => l1Pick_ok 1 hf.cur (by rfl) rfl (by decide)
    refine two_intro (fun _ => ?_) (fun _ => ?_)
    · refine (c0 hf).mono ?_
      rintro _ H2 ⟨⟨z, rfl, hz⟩, hg⟩
      have hf := hf.trans hg
      simp -implicitDefEqProofs only [kz, kk0, kk1, kk2, kk3, ↓two_true, ↓two_false, oS_some, oM_some, mkv, aggAt, Nat.reduceLeDiff, Nat.reduceSub, Nat.reduceMul, implies_true, Nat.reduceEqDiff, reduceIte, Nat.reduceAdd, Nat.reduceBEq, reduceCtorEq, bs98_3, bs98_12, add_str, wd]
      have e1 : (z ++ ⟨#[32, 58, 32]⟩ : ByteArray).size = z.size + 3 := by rw [ByteArray.size_append]; rfl
      refine ⟨by show z.size + 3 ≤ _; omega, (il hf.cur).mono ?_⟩
      rintro _ H3 ⟨⟨s, rfl, hs⟩, hg⟩
      simp -implicitDefEqProofs only [kz, kk0, kk1, kk2, kk3, ↓two_true, ↓two_false, oS_some, oM_some, mkv, aggAt, Nat.reduceLeDiff, Nat.reduceSub, Nat.reduceMul, implies_true, Nat.reduceEqDiff, reduceIte, Nat.reduceAdd, Nat.reduceBEq, reduceCtorEq, bs98_3, bs98_12, add_str, wd]
      refine ⟨by omega, ⟨_, rfl, ?_⟩, hf.trans hg⟩
      rw [ByteArray.size_append]; omega
    · have dA : CallsA Try.prog 95 #[.pointer (some ⟨cb, 0, none⟩), .bool false] H1 (StrA cb H1 5) := l8DrawFun_ok hf.cur
      have caseA : ∀ tm : Tm, True := fun _ => trivial
      by_cases hv1 : v = 1
      · subst hv1
        simp -implicitDefEqProofs only [kz, kk0, kk1, kk2, kk3, ↓two_true, ↓two_false, oS_some, oM_some, mkv, aggAt, Nat.reduceLeDiff, Nat.reduceSub, Nat.reduceMul, implies_true, Nat.reduceEqDiff, reduceIte, Nat.reduceAdd, Nat.reduceBEq, reduceCtorEq, bs98_3, bs98_12, add_str, wd, beq_self_eq_true]
        refine dA.mono ?_
        rintro _ H2 ⟨⟨z, rfl, hz⟩, hg⟩
        have hf := hf.trans hg
        simp -implicitDefEqProofs only [kz, kk0, kk1, kk2, kk3, ↓two_true, ↓two_false, oS_some, oM_some, mkv, aggAt, Nat.reduceLeDiff, Nat.reduceSub, Nat.reduceMul, implies_true, Nat.reduceEqDiff, reduceIte, Nat.reduceAdd, Nat.reduceBEq, reduceCtorEq, bs98_3, bs98_12, add_str, wd]
        have e1 : (z ++ ⟨#[32]⟩ : ByteArray).size = z.size + 1 := by rw [ByteArray.size_append]; rfl
        refine ⟨by show z.size + 1 ≤ _; omega, (il hf.cur).mono ?_⟩
        rintro _ H3 ⟨⟨s, rfl, hs⟩, hg⟩
        simp -implicitDefEqProofs only [kz, kk0, kk1, kk2, kk3, ↓two_true, ↓two_false, oS_some, oM_some, mkv, aggAt, Nat.reduceLeDiff, Nat.reduceSub, Nat.reduceMul, implies_true, Nat.reduceEqDiff, reduceIte, Nat.reduceAdd, Nat.reduceBEq, reduceCtorEq, bs98_3, bs98_12, add_str, wd]
        refine ⟨by omega, ⟨_, rfl, ?_⟩, hf.trans hg⟩
        rw [ByteArray.size_append]; omega
      · have v1 : (v == 1) = false := beq_eq_false_iff_ne.2 hv1
        by_cases hv2 : v = 2
        · subst hv2
          simp -implicitDefEqProofs only [kz, kk0, kk1, kk2, kk3, ↓two_true, ↓two_false, oS_some, oM_some, mkv, aggAt, Nat.reduceLeDiff, Nat.reduceSub, Nat.reduceMul, implies_true, Nat.reduceEqDiff, reduceIte, Nat.reduceAdd, Nat.reduceBEq, reduceCtorEq, bs98_3, bs98_12, add_str, wd, v1, beq_self_eq_true]
          refine dA.mono ?_
          rintro _ H2 ⟨⟨z, rfl, hz⟩, hg⟩
          have hf := hf.trans hg
          simp -implicitDefEqProofs only [kz, kk0, kk1, kk2, kk3, ↓two_true, ↓two_false, oS_some, oM_some, mkv, aggAt, Nat.reduceLeDiff, Nat.reduceSub, Nat.reduceMul, implies_true, Nat.reduceEqDiff, reduceIte, Nat.reduceAdd, Nat.reduceBEq, reduceCtorEq, bs98_3, bs98_12, add_str, wd]
          have e1 : (z ++ ⟨#[32]⟩ : ByteArray).size = z.size + 1 := by rw [ByteArray.size_append]; rfl
          refine ⟨by show z.size + 1 ≤ _; omega, (il hf.cur).mono ?_⟩
          rintro _ H3 ⟨⟨s, rfl, hs⟩, hg⟩
          simp -implicitDefEqProofs only [kz, kk0, kk1, kk2, kk3, ↓two_true, ↓two_false, oS_some, oM_some, mkv, aggAt, Nat.reduceLeDiff, Nat.reduceSub, Nat.reduceMul, implies_true, Nat.reduceEqDiff, reduceIte, Nat.reduceAdd, Nat.reduceBEq, reduceCtorEq, bs98_3, bs98_12, add_str, wd]
          refine ⟨by omega, ⟨_, rfl, ?_⟩, hf.trans hg⟩
          rw [ByteArray.size_append]; omega
        · have v2 : (v == 2) = false := beq_eq_false_iff_ne.2 hv2
          by_cases h345 : v = 3 ∨ v = 4 ∨ v = 5
          · rcases h345 with rfl | rfl | rfl
            · simp -implicitDefEqProofs only [kz, kk0, kk1, kk2, kk3, ↓two_true, ↓two_false, oS_some, oM_some, mkv, aggAt, Nat.reduceLeDiff, Nat.reduceSub, Nat.reduceMul, implies_true, Nat.reduceEqDiff, reduceIte, Nat.reduceAdd, Nat.reduceBEq, reduceCtorEq, bs98_3, bs98_12, add_str, wd, v1, v2, beq_self_eq_true]
              refine (io hf.cur).mono ?_
              rintro _ H2 ⟨⟨a, rfl, ha⟩, hg⟩
              have hf := hf.trans hg
              simp -implicitDefEqProofs only [kz, kk0, kk1, kk2, kk3, ↓two_true, ↓two_false, oS_some, oM_some, mkv, aggAt, Nat.reduceLeDiff, Nat.reduceSub, Nat.reduceMul, implies_true, Nat.reduceEqDiff, reduceIte, Nat.reduceAdd, Nat.reduceBEq, reduceCtorEq, bs98_3, bs98_12, add_str, wd]
              have e1 : (a ++ ⟨#[32]⟩ : ByteArray).size = a.size + 1 := by rw [ByteArray.size_append]; rfl
              refine ⟨by show a.size + 1 ≤ _; omega, ?_⟩
              generalize (a ++ ⟨#[32]⟩ : ByteArray) = a1 at *
              refine (l8DrawFun_ok hf.cur).mono ?_
              rintro _ H3 ⟨⟨z, rfl, hz⟩, hg⟩
              have hf := hf.trans hg
              simp -implicitDefEqProofs only [kz, kk0, kk1, kk2, kk3, ↓two_true, ↓two_false, oS_some, oM_some, mkv, aggAt, Nat.reduceLeDiff, Nat.reduceSub, Nat.reduceMul, implies_true, Nat.reduceEqDiff, reduceIte, Nat.reduceAdd, Nat.reduceBEq, reduceCtorEq, bs98_3, bs98_12, add_str, wd]
              have e2 : (a1 ++ z : ByteArray).size = a1.size + z.size := ByteArray.size_append
              generalize (a1 ++ z : ByteArray) = a2 at *
              refine ⟨by omega, ?_⟩
              have e3 : (a2 ++ ⟨#[32]⟩ : ByteArray).size = a2.size + 1 := by rw [ByteArray.size_append]; rfl
              refine ⟨by show a2.size + 1 ≤ _; omega, ?_⟩
              generalize (a2 ++ ⟨#[32]⟩ : ByteArray) = a3 at *
              refine (il hf.cur).mono ?_
              rintro _ H4 ⟨⟨s, rfl, hs⟩, hg⟩
              simp -implicitDefEqProofs only [kz, kk0, kk1, kk2, kk3, ↓two_true, ↓two_false, oS_some, oM_some, mkv, aggAt, Nat.reduceLeDiff, Nat.reduceSub, Nat.reduceMul, implies_true, Nat.reduceEqDiff, reduceIte, Nat.reduceAdd, Nat.reduceBEq, reduceCtorEq, bs98_3, bs98_12, add_str, wd]
              refine ⟨by omega, ⟨_, rfl, ?_⟩, hf.trans hg⟩
              rw [ByteArray.size_append]; omega
            · have v3 : ((4 : Int) == 3) = false := rfl
              simp -implicitDefEqProofs only [kz, kk0, kk1, kk2, kk3, ↓two_true, ↓two_false, oS_some, oM_some, mkv, aggAt, Nat.reduceLeDiff, Nat.reduceSub, Nat.reduceMul, implies_true, Nat.reduceEqDiff, reduceIte, Nat.reduceAdd, Nat.reduceBEq, reduceCtorEq, bs98_3, bs98_12, add_str, wd, v1, v2, v3, beq_self_eq_true]
              refine (io hf.cur).mono ?_
              rintro _ H2 ⟨⟨a, rfl, ha⟩, hg⟩
              have hf := hf.trans hg
              simp -implicitDefEqProofs only [kz, kk0, kk1, kk2, kk3, ↓two_true, ↓two_false, oS_some, oM_some, mkv, aggAt, Nat.reduceLeDiff, Nat.reduceSub, Nat.reduceMul, implies_true, Nat.reduceEqDiff, reduceIte, Nat.reduceAdd, Nat.reduceBEq, reduceCtorEq, bs98_3, bs98_12, add_str, wd]
              have e1 : (a ++ ⟨#[32]⟩ : ByteArray).size = a.size + 1 := by rw [ByteArray.size_append]; rfl
              refine ⟨by show a.size + 1 ≤ _; omega, ?_⟩
              generalize (a ++ ⟨#[32]⟩ : ByteArray) = a1 at *
              refine (l8DrawFun_ok hf.cur).mono ?_
              rintro _ H3 ⟨⟨z, rfl, hz⟩, hg⟩
              have hf := hf.trans hg
              simp -implicitDefEqProofs only [kz, kk0, kk1, kk2, kk3, ↓two_true, ↓two_false, oS_some, oM_some, mkv, aggAt, Nat.reduceLeDiff, Nat.reduceSub, Nat.reduceMul, implies_true, Nat.reduceEqDiff, reduceIte, Nat.reduceAdd, Nat.reduceBEq, reduceCtorEq, bs98_3, bs98_12, add_str, wd]
              have e2 : (a1 ++ z : ByteArray).size = a1.size + z.size := ByteArray.size_append
              generalize (a1 ++ z : ByteArray) = a2 at *
              refine ⟨by omega, ?_⟩
              have e3 : (a2 ++ ⟨#[32]⟩ : ByteArray).size = a2.size + 1 := by rw [ByteArray.size_append]; rfl
              refine ⟨by show a2.size + 1 ≤ _; omega, ?_⟩
              generalize (a2 ++ ⟨#[32]⟩ : ByteArray) = a3 at *
              refine (il hf.cur).mono ?_
              rintro _ H4 ⟨⟨s, rfl, hs⟩, hg⟩
              simp -implicitDefEqProofs only [kz, kk0, kk1, kk2, kk3, ↓two_true, ↓two_false, oS_some, oM_some, mkv, aggAt, Nat.reduceLeDiff, Nat.reduceSub, Nat.reduceMul, implies_true, Nat.reduceEqDiff, reduceIte, Nat.reduceAdd, Nat.reduceBEq, reduceCtorEq, bs98_3, bs98_12, add_str, wd]
              refine ⟨by omega, ⟨_, rfl, ?_⟩, hf.trans hg⟩
              rw [ByteArray.size_append]; omega
            · have v3 : ((5 : Int) == 3) = false := rfl
              have v4 : ((5 : Int) == 4) = false := rfl
              simp -implicitDefEqProofs only [kz, kk0, kk1, kk2, kk3, ↓two_true, ↓two_false, oS_some, oM_some, mkv, aggAt, Nat.reduceLeDiff, Nat.reduceSub, Nat.reduceMul, implies_true, Nat.reduceEqDiff, reduceIte, Nat.reduceAdd, Nat.reduceBEq, reduceCtorEq, bs98_3, bs98_12, add_str, wd, v1, v2, v3, v4, beq_self_eq_true]
              refine (io hf.cur).mono ?_
              rintro _ H2 ⟨⟨a, rfl, ha⟩, hg⟩
              have hf := hf.trans hg
              simp -implicitDefEqProofs only [kz, kk0, kk1, kk2, kk3, ↓two_true, ↓two_false, oS_some, oM_some, mkv, aggAt, Nat.reduceLeDiff, Nat.reduceSub, Nat.reduceMul, implies_true, Nat.reduceEqDiff, reduceIte, Nat.reduceAdd, Nat.reduceBEq, reduceCtorEq, bs98_3, bs98_12, add_str, wd]
              have e1 : (a ++ ⟨#[32]⟩ : ByteArray).size = a.size + 1 := by rw [ByteArray.size_append]; rfl
              refine ⟨by show a.size + 1 ≤ _; omega, ?_⟩
              generalize (a ++ ⟨#[32]⟩ : ByteArray) = a1 at *
              refine (l8DrawFun_ok hf.cur).mono ?_
              rintro _ H3 ⟨⟨z, rfl, hz⟩, hg⟩
              have hf := hf.trans hg
              simp -implicitDefEqProofs only [kz, kk0, kk1, kk2, kk3, ↓two_true, ↓two_false, oS_some, oM_some, mkv, aggAt, Nat.reduceLeDiff, Nat.reduceSub, Nat.reduceMul, implies_true, Nat.reduceEqDiff, reduceIte, Nat.reduceAdd, Nat.reduceBEq, reduceCtorEq, bs98_3, bs98_12, add_str, wd]
              have e2 : (a1 ++ z : ByteArray).size = a1.size + z.size := ByteArray.size_append
              generalize (a1 ++ z : ByteArray) = a2 at *
              refine ⟨by omega, ?_⟩
              have e3 : (a2 ++ ⟨#[32]⟩ : ByteArray).size = a2.size + 1 := by rw [ByteArray.size_append]; rfl
              refine ⟨by show a2.size + 1 ≤ _; omega, ?_⟩
              generalize (a2 ++ ⟨#[32]⟩ : ByteArray) = a3 at *
              refine (il hf.cur).mono ?_
              rintro _ H4 ⟨⟨s, rfl, hs⟩, hg⟩
              simp -implicitDefEqProofs only [kz, kk0, kk1, kk2, kk3, ↓two_true, ↓two_false, oS_some, oM_some, mkv, aggAt, Nat.reduceLeDiff, Nat.reduceSub, Nat.reduceMul, implies_true, Nat.reduceEqDiff, reduceIte, Nat.reduceAdd, Nat.reduceBEq, reduceCtorEq, bs98_3, bs98_12, add_str, wd]
              refine ⟨by omega, ⟨_, rfl, ?_⟩, hf.trans hg⟩
              rw [ByteArray.size_append]; omega
          · have v3 : (v == 3) = false := beq_eq_false_iff_ne.2 (by omega)
            have v4 : (v == 4) = false := beq_eq_false_iff_ne.2 (by omega)
            have v5 : (v == 5) = false := beq_eq_false_iff_ne.2 (by omega)
            simp -implicitDefEqProofs only [kz, kk0, kk1, kk2, kk3, ↓two_true, ↓two_false, oS_some, oM_some, mkv, aggAt, Nat.reduceLeDiff, Nat.reduceSub, Nat.reduceMul, implies_true, Nat.reduceEqDiff, reduceIte, Nat.reduceAdd, Nat.reduceBEq, reduceCtorEq, bs98_3, bs98_12, add_str, wd, v1, v2, v3, v4, v5]
            refine two_intro (fun _ => ?_) (fun _ => ?_)
            · refine CallsA.mono (l1Pick_ok 20 hf.cur (by rfl) rfl (by decide)) ?_
              rintro _ H2 ⟨⟨z, rfl, hz⟩, hg⟩
              simp -implicitDefEqProofs only [kz, kk0, kk1, kk2, kk3, ↓two_true, ↓two_false, oS_some, oM_some, mkv, aggAt, Nat.reduceLeDiff, Nat.reduceSub, Nat.reduceMul, implies_true, Nat.reduceEqDiff, reduceIte, Nat.reduceAdd, Nat.reduceBEq, reduceCtorEq, bs98_3, bs98_12, add_str, wd]
              exact ⟨⟨_, rfl, by omega⟩, hf.trans hg⟩
            · refine (io hf.cur).mono ?_
              rintro _ H2 ⟨⟨z, rfl, hz⟩, hg⟩
              simp -implicitDefEqProofs only [kz, kk0, kk1, kk2, kk3, ↓two_true, ↓two_false, oS_some, oM_some, mkv, aggAt, Nat.reduceLeDiff, Nat.reduceSub, Nat.reduceMul, implies_true, Nat.reduceEqDiff, reduceIte, Nat.reduceAdd, Nat.reduceBEq, reduceCtorEq, bs98_3, bs98_12, add_str, wd]
              exact ⟨⟨_, rfl, by omega⟩, hf.trans hg⟩
set_option maxHeartbeats 4000000 in
theorem l8Both_ok {cb : Nat} : ∀ d : Nat, d ≤ 5 → (∀ {H : AH}, Cur H cb → CallsA Try.prog 93 #[.pointer (some ⟨cb, 0, none⟩), .int .i64 d] H (StrA cb H (68 * 2 ^ d - 8))) ∧ ∀ {H : AH}, Cur H cb → CallsA Try.prog 69 #[.pointer (some ⟨cb, 0, none⟩), .int .i64 d] H (StrA cb H (68 * 2 ^ d - 8)) := by
  intro d
  induction d with
  | zero =>
    intro _
    have h0 : ∀ {H : AH}, Cur H cb → CallsA Try.prog 93 #[.pointer (some ⟨cb, 0, none⟩), .int .i64 ((0 : Nat) : Int)] H (StrA cb H (68 * 2 ^ 0 - 8)) := fun {H} hc =>
      l8Op_step (M1 := 0) (by decide) (fun h => absurd rfl h) (by decide) (fun h => absurd rfl h) hc (by decide)
    exact ⟨h0, fun {H} hc => l8Line_step (M1 := 60) (by decide) (by decide) (by decide) h0 (fun h => absurd rfl h) hc (by decide)⟩
  | succ d ih =>
    intro hd
    obtain ⟨io, il⟩ := ih (by omega)
    have hp : (2 : Nat) ^ d ≤ 2 ^ 5 := Nat.pow_le_pow_right (by decide) (by omega)
    have hq : 1 ≤ (2 : Nat) ^ d := Nat.one_le_two_pow
    have h32 : (2 : Nat) ^ 5 = 32 := rfl
    have e : ((d + 1 : Nat) : Int) - 1 = (d : Int) := by omega
    refine ⟨fun {H} hc => l8Op_step (M1 := 68 * 2 ^ d - 8) ?_ (fun _ => ?_) ?_ (fun _ => ?_) hc (by omega), fun {H} hc => l8Line_step (M1 := 68 * 2 ^ d - 8) ?_ ?_ ?_ io (fun _ => il) hc (by omega)⟩
    · rw [Nat.pow_succ]; omega
    · rw [Nat.pow_succ]; omega
    · rw [Nat.pow_succ]; omega
    · rw [e]; exact il
    · rw [if_neg (by omega), Nat.pow_succ]; omega
    · rw [Nat.pow_succ]; omega
    · rw [Nat.pow_succ]; omega
set_option maxHeartbeats 4000000 in
theorem l8DrawLine_ok {H : AH} {cb : Nat} {d : Int} (hc : Cur H cb) (hd : 0 ≤ d ∧ d ≤ 5) : CallsA Try.prog 69 #[.pointer (some ⟨cb, 0, none⟩), .int .i64 d] H (StrA cb H 3000) := by
  obtain ⟨n, rfl⟩ : ∃ n : Nat, d = n := ⟨d.toNat, by omega⟩
  refine ((l8Both_ok n (by omega)).2 hc).mono ?_
  rintro r H1 ⟨⟨s, h1, h2⟩, hf⟩
  have hp : (2 : Nat) ^ n ≤ 2 ^ 5 := Nat.pow_le_pow_right (by decide) (by omega)
  have h32 : (2 : Nat) ^ 5 = 32 := rfl
  exact ⟨⟨s, h1, by omega⟩, hf⟩

theorem LX.front {c : Option Nat} {H0 H : AH} {L : List Ix} (h : LX c H0 H L) (n : Nat) (is : List Nat) (hn : is.Nodup) (hb : (is.all fun i => decide (i < n) && (L[i]?).isSome) = true) : LX c H0 H ((is.filterMap fun i => L[i]?) ++ L.drop n) := by
  have hlt : ∀ i ∈ is, i < n := fun i hi => by
    have := List.all_eq_true.1 hb i hi
    simp only [Bool.and_eq_true, decide_eq_true_eq] at this
    exact this.1
  refine h.pick (is ++ (List.range (L.length - n)).map (· + n)) _ ?_ ?_
  · rw [List.map_append, List.map_append]
    congr 1
    · clear hn hlt
      induction is with
      | nil => rfl
      | cons i is ih =>
        simp only [List.all_cons, Bool.and_eq_true, decide_eq_true_eq] at hb
        obtain ⟨x, hx⟩ := Option.isSome_iff_exists.1 hb.1.2
        rw [List.map_cons, ih hb.2, List.filterMap_cons, hx]
        rfl
    · rw [List.map_map]
      refine List.ext_getElem? fun j => ?_
      rw [List.getElem?_map, List.getElem?_map, List.getElem?_drop]
      rcases Nat.lt_or_ge j (L.length - n) with e | e
      · rw [List.getElem?_range e]
        simp only [Option.map_some, Function.comp_apply]
        rw [List.getElem?_eq_getElem (by omega), List.getElem?_eq_getElem (by omega)]
        simp only [Option.map_some, Nat.add_comm]
      · rw [List.getElem?_eq_none (by simp; omega), List.getElem?_eq_none (by omega)]
        rfl
  · rw [List.nodup_append]
    refine ⟨hn, ?_, ?_⟩
    · refine List.Pairwise.map _ (fun a b hab e => hab ?_) List.nodup_range
      simpa using e
    · intro a ha b hb2 e
      obtain ⟨j, _, rfl⟩ := List.mem_map.1 hb2
      have := hlt a ha
      omega
/-- The kind, the value, the sign of a token. -/
def tkK (l : List (Int × Int)) (i : Nat) : Int := match l[i]? with | some t => t.1 | none => 0
def tkV (l : List (Int × Int)) (i : Nat) : Int := match l[i]? with | some t => t.2 | none => 0
def tkS (l : List (Int × Int)) (i : Nat) : Int := if tkK l i = 3 then tkV l i else 0
theorem tkK_out {l : List (Int × Int)} {i : Nat} (h : l.length ≤ i) : tkK l i = 0 := by
  unfold tkK; rw [List.getElem?_eq_none h]
theorem tkK_in {l : List (Int × Int)} {i : Nat} (h : tkK l i ≠ 0) : i < l.length := by
  rcases Nat.lt_or_ge i l.length with e | e
  · exact e
  · exact absurd (tkK_out e) h
theorem tkS_in {l : List (Int × Int)} {i : Nat} (h : tkS l i ≠ 0) : i < l.length := by
  refine tkK_in fun e => h ?_
  unfold tkS; rw [if_neg (by rw [e]; decide)]
theorem tok_all {l : List (Int × Int)} {i : Nat} (h : (l.all fun t => tokOk t.1 t.2) = true) (hi : i < l.length) : tokOk (tkK l i) (tkV l i) = true := by
  have := List.all_eq_true.1 h l[i] (List.getElem_mem hi)
  unfold tkK tkV
  rw [List.getElem?_eq_getElem hi]
  exact this

theorem tokV_get : ∀ {l : List (Int × Int)} {i : Nat}, i < l.length → ((tokV l).drop (i * 2)).take 2 = [.i (tkK l i), .i (tkV l i)]
  | [], i, h => by simp at h
  | t :: l, 0, _ => by simp [tokV, tkK, tkV]
  | t :: l, i + 1, h => by
    have ih := tokV_get (l := l) (i := i) (by simpa using h)
    have e1 : tokV (t :: l) = .i t.1 :: .i t.2 :: tokV l := rfl
    have e2 : tkK (t :: l) (i + 1) = tkK l i := by unfold tkK; rw [List.getElem?_cons_succ]
    have e3 : tkV (t :: l) (i + 1) = tkV l i := by unfold tkV; rw [List.getElem?_cons_succ]
    rw [e1, e2, e3, show (i + 1) * 2 = i * 2 + 1 + 1 by omega, List.drop_succ_cons, List.drop_succ_cons]
    exact ih
theorem tok_at {H : AH} {ta : Option Addr} {tc nt : Nat} {ts : List Value} {toks : List (Int × Int)} (f : FRow H (.slice ta nt tc) kToken nt ts) (hV : cvs H ts = tokV toks) (hl : toks.length = nt) {i : Nat} (hi : i < nt) :
    ∃ b o cs, ta = some ⟨b, o, none⟩ ∧ tc = 2 ∧ rd H b = some cs ∧ cs[o + i * 2]? = some (.int .i64 (tkK toks i)) ∧ cs[o + i * 2 + 1]? = some (.int .i64 (tkV toks i)) := by
  obtain ⟨a, c, e, gv⟩ := f.opn 2 rfl
  simp only [Value.slice.injEq, true_and] at e
  obtain ⟨rfl, rfl⟩ := e
  obtain ⟨b, o, cs, rfl, rfl, hrd, hle, hcell⟩ := gv (by omega)
  have x1 := f.elemn 2 rfl hi
  have em : (elm 2 ts i).map (cv H) = [.i (tkK toks i), .i (tkV toks i)] := by
    have e := tokV_get (l := toks) (i := i) (by omega)
    rw [← hV] at e
    simpa [elm, cvs] using e
  have hc := (hcell i hi).2
  generalize elm 2 ts i = ex at *
  obtain ⟨_, _, rfl, ⟨p1, rfl⟩, _, _, rfl, ⟨p2, rfl⟩, rfl⟩ := x1
  simp only [List.map_cons, List.map_nil, cv_int, List.cons.injEq, CV.i.injEq, and_true] at em
  obtain ⟨rfl, rfl⟩ := em
  have c0 := hc 0 _ rfl
  rw [Nat.add_zero] at c0
  exact ⟨b, o, cs, rfl, rfl, hrd, c0, hc 1 _ rfl⟩
/-- A cursor that may be read. -/
structure TC (H : AH) (cb : Nat) (ta : Option Addr) (tc nt at' : Nat) (nv : Value) (toks : List (Int × Int)) : Prop where
  rd : rd H cb = some [.slice ta nt tc, .int .i64 (at' : Nat), nv]
  tab : ∃ ts, FRow H (.slice ta nt tc) kToken nt ts ∧ cvs H ts = tokV toks
  len : toks.length = nt
  le : nt ≤ 300
  at' : at' ≤ nt

theorem l9Kind_eq {H : AH} {cb : Nat} {ta : Option Addr} {tc nt at' k : Nat} {nv : Value} {toks : List (Int × Int)} (h : TC H cb ta tc nt at' nv toks) (hk : k ≤ 3) {Φ : Value → AH → Prop} :
    CallsA Try.prog 110 #[.pointer (some ⟨cb, 0, none⟩), .int .i64 (k : Nat)] H Φ = Φ (.int .i64 (tkK toks (at' + k))) H := by
  have : CallsA Try.prog 110 #[.pointer (some ⟨cb, 0, none⟩), .int .i64 (k : Nat)] H fun r H' => r = .int .i64 (tkK toks (at' + k)) ∧ H' = H := by
    obtain ⟨hr, ⟨ts, f, hV⟩, hl, h3, h4⟩ := h
    have wk : IntKind.i64.wrap ((at' : Int) + (k : Int)) = ((at' + k : Nat) : Int) := by rw [IntWalk.i64_in _ (by omega)]; omega
    refine w110 ?_
    unfold k110
    simp -implicitDefEqProofs only [kz, kk0, kk1, kk2, kk3, ↓two_true, ↓two_false, oS_some, oM_some, mkv, aggAt, Nat.reduceLeDiff, Nat.reduceSub, Nat.reduceMul, implies_true, Nat.reduceEqDiff, reduceIte, Nat.reduceAdd, Nat.reduceBEq, reduceCtorEq, fa54_0, fa120_0, fa120_1, ix25, ld3, ld25, ln25, hr, wk]
    refine two_intro (fun u => ?_) (fun u => ?_)
    · rw [tkK_out (by have := of_decide_eq_true u; omega)]
    · have hi : at' + k < nt := by have := of_decide_eq_false u; omega
      obtain ⟨b, o, cs, rfl, rfl, hrd, c0, c1⟩ := tok_at f hV hl hi
      try simp -implicitDefEqProofs only [kz, kk0, kk1, kk2, kk3, ↓two_true, ↓two_false, oS_some, oM_some, mkv, aggAt, Nat.reduceLeDiff, Nat.reduceSub, Nat.reduceMul, implies_true, Nat.reduceEqDiff, reduceIte, Nat.reduceAdd, Nat.reduceBEq, reduceCtorEq, fa54_0, fa120_0, fa120_1, ix25, ld3, ld25, ln25, hr, wk, hrd, c0, Int.toNat_natCast]
      exact ⟨by omega, by omega⟩
  exact this.eq0

theorem l9Sign_eq {H : AH} {cb : Nat} {ta : Option Addr} {tc nt at' k : Nat} {nv : Value} {toks : List (Int × Int)} (h : TC H cb ta tc nt at' nv toks) (hk : k ≤ 3) {Φ : Value → AH → Prop} :
    CallsA Try.prog 114 #[.pointer (some ⟨cb, 0, none⟩), .int .i64 (k : Nat)] H Φ = Φ (.int .i64 (tkS toks (at' + k))) H := by
  have : CallsA Try.prog 114 #[.pointer (some ⟨cb, 0, none⟩), .int .i64 (k : Nat)] H fun r H' => r = .int .i64 (tkS toks (at' + k)) ∧ H' = H := by
    have hk9 := fun Φ => l9Kind_eq h hk (Φ := Φ)
    obtain ⟨hr, ⟨ts, f, hV⟩, hl, h3, h4⟩ := h
    have wk : IntKind.i64.wrap ((at' : Int) + (k : Int)) = ((at' + k : Nat) : Int) := by rw [IntWalk.i64_in _ (by omega)]; omega
    refine w114 ?_
    unfold k114
    simp -implicitDefEqProofs only [kz, kk0, kk1, kk2, kk3, ↓two_true, ↓two_false, oS_some, oM_some, mkv, aggAt, Nat.reduceLeDiff, Nat.reduceSub, Nat.reduceMul, implies_true, Nat.reduceEqDiff, reduceIte, Nat.reduceAdd, Nat.reduceBEq, reduceCtorEq, fa54_1, fa120_0, fa120_1, ix25, ld3, ld25, hr, wk, hk9]
    refine two_intro (fun u => ?_) (fun u => ?_)
    · have hne : tkK toks (at' + k) ≠ 3 := by simpa using u
      unfold tkS; rw [if_neg hne]
    · have he : tkK toks (at' + k) = 3 := by simpa using u
      have hi : at' + k < nt := by have := tkK_in (l := toks) (i := at' + k) (by omega); omega
      obtain ⟨b, o, cs, rfl, rfl, hrd, c0, c1⟩ := tok_at f hV hl hi
      try simp -implicitDefEqProofs only [kz, kk0, kk1, kk2, kk3, ↓two_true, ↓two_false, oS_some, oM_some, mkv, aggAt, Nat.reduceLeDiff, Nat.reduceSub, Nat.reduceMul, implies_true, Nat.reduceEqDiff, reduceIte, Nat.reduceAdd, Nat.reduceBEq, reduceCtorEq, fa54_1, fa120_0, fa120_1, ix25, ld3, ld25, hr, wk, hrd, c1, Int.toNat_natCast]
      unfold tkS; rw [if_pos he]
      exact ⟨by omega, rfl⟩
  exact this.eq0

theorem LX.tc {c : Option Nat} {H0 H : AH} {L : List Ix} {cb : Nat} {ta : Option Addr} {tc nt at' : Nat} {nv : Value} {ts : List Value} {toks : List (Int × Int)} {V : List CV} (q : LX c H0 H L) (i j : Nat) (hi : L[i]? = some (.own (.box cb [.slice ta nt tc, .int .i64 (at' : Nat), nv]))) (hj : L[j]? = some (.ftab (.slice ta nt tc) kToken nt ts V)) (hV : V = tokV toks) (hl : toks.length = nt) (h3 : nt ≤ 300) (h4 : at' ≤ nt) : TC H cb ta tc nt at' nv toks :=
  ⟨(q.rd i hi).1, ⟨ts, (q.ft j hj).1, (q.ft j hj).2.trans hV⟩, hl, h3, h4⟩

set_option maxHeartbeats 4000000 in
theorem l9Fun_ok {c0 : Option Nat} {H0 H : AH} {L : List Ix} {cb : Nat} {ta na : Option Addr} {tc nt at' nm nc : Nat} {ts : List Value} {toks : List (Int × Int)} (q : LX c0 H0 H (.own (.box cb [.slice ta nt tc, .int .i64 (at' : Nat), .slice na nm nc]) :: .ftab (.slice ta nt tc) kToken nt ts (tokV toks) :: L)) (hl : toks.length = nt) (h3 : nt ≤ 300) (h4 : at' ≤ nt) :
    CallsA Try.prog 111 #[.pointer (some ⟨cb, 0, none⟩)] H fun r H' => ∃ (s o w : Int) (ok : Bool) (a2 : Nat), r = .tuple #[.agg #[.int .i64 s, .int .i64 o, .int .i64 w], .bool ok] ∧ LX c0 H0 H' (.own (.box cb [.slice ta nt tc, .int .i64 (a2 : Nat), .slice na nm nc]) :: .ftab (.slice ta nt tc) kToken nt ts (tokV toks) :: L) ∧ at' ≤ a2 ∧ a2 ≤ nt ∧ (ok = true → at' < a2) ∧ (ok = false → a2 = at') ∧ (tkS toks at' ≠ 0 → ok = true) := by
  refine w111 ?_
  unfold k111
  simp -implicitDefEqProofs only [kz, kk0, kk1, kk2, kk3, ↓two_true, ↓two_false, mkv, aggAt, Nat.reduceLeDiff, Nat.reduceSub, Nat.reduceMul, implies_true, Nat.reduceEqDiff, reduceIte, Nat.reduceAdd, Nat.reduceBEq, reduceCtorEq, al63, bd63, fa120_1, ld3, ld63, st3, st63]
  refine st_box q fun H1 q1 => ?_
  have t1 := q1.tc 1 2 rfl rfl rfl hl h3 h4
  have s0 : ∀ Φ, CallsA Try.prog 114 #[.pointer (some ⟨cb, 0, none⟩), .int .i64 0] H1 Φ = Φ (.int .i64 (tkS toks at')) H1 := fun Φ => l9Sign_eq (k := 0) t1 (by decide)
  have s1 : ∀ Φ, CallsA Try.prog 114 #[.pointer (some ⟨cb, 0, none⟩), .int .i64 1] H1 Φ = Φ (.int .i64 (tkS toks (at' + 1))) H1 := fun Φ => l9Sign_eq (k := 1) t1 (by decide)
  have s2 : ∀ Φ, CallsA Try.prog 114 #[.pointer (some ⟨cb, 0, none⟩), .int .i64 2] H1 Φ = Φ (.int .i64 (tkS toks (at' + 2))) H1 := fun Φ => l9Sign_eq (k := 2) t1 (by decide)
  have i0 := tkS_in (l := toks) (i := at')
  have i1 := tkS_in (l := toks) (i := at' + 1)
  have i2 := tkS_in (l := toks) (i := at' + 2)
  have w1 : IntKind.i64.wrap ((at' : Int) + 1) = ((at' + 1 : Nat) : Int) := by rw [IntWalk.i64_in _ (by omega)]; omega
  have w2 : IntKind.i64.wrap ((at' : Int) + 2) = ((at' + 2 : Nat) : Int) := by rw [IntWalk.i64_in _ (by omega)]; omega
  have w3 : IntKind.i64.wrap ((at' : Int) + 3) = ((at' + 3 : Nat) : Int) := by rw [IntWalk.i64_in _ (by omega)]; omega
  generalize tkS toks at' = a at *
  generalize tkS toks (at' + 1) = b at *
  generalize tkS toks (at' + 2) = d at *
  clear t1
  simp -implicitDefEqProofs only [kz, kk0, kk1, kk2, kk3, ↓two_true, ↓two_false, mkv, aggAt, Nat.reduceLeDiff, Nat.reduceSub, Nat.reduceMul, implies_true, Nat.reduceEqDiff, reduceIte, Nat.reduceAdd, Nat.reduceBEq, reduceCtorEq, al63, bd63, fa120_1, ld3, ld63, st3, st63, s0, s1, s2, q1.rd 0 rfl, q1.rd 1 rfl, w1, w2, w3]
  refine two_intro (fun u => ?_) (fun u => ?_)
  · refine st_set q1 0 rfl fun H2 q2 => ?_
    simp only [List.set_cons_zero, List.set_cons_succ] at q2
    simp -implicitDefEqProofs only [kz, kk0, kk1, kk2, kk3, ↓two_true, ↓two_false, mkv, aggAt, Nat.reduceLeDiff, Nat.reduceSub, Nat.reduceMul, implies_true, Nat.reduceEqDiff, reduceIte, Nat.reduceAdd, Nat.reduceBEq, reduceCtorEq, al63, bd63, fa120_1, ld3, ld63, st3, st63, q2.rd 0 rfl, q2.rd 1 rfl]
    exact ⟨0, 0, 0, false, at', rfl, q2.tail, Nat.le_refl _, h4, (fun h => by cases h), (fun _ => rfl), fun h => absurd (by simpa using u) h⟩
  · have ha0 : a ≠ 0 := by simpa using u
    refine two_intro (fun u => ?_) (fun u => ?_)
    · refine two_intro (fun u => ?_) (fun u => ?_)
      · have hb0 : b ≠ 0 := by simpa using u
        have hx : at' + 2 ≤ nt := by have := i1 hb0; omega
        try simp -implicitDefEqProofs only [kz, kk0, kk1, kk2, kk3, ↓two_true, ↓two_false, mkv, aggAt, Nat.reduceLeDiff, Nat.reduceSub, Nat.reduceMul, implies_true, Nat.reduceEqDiff, reduceIte, Nat.reduceAdd, Nat.reduceBEq, reduceCtorEq, al63, bd63, fa120_1, ld3, ld63, st3, st63, q1.rd 0 rfl, q1.rd 1 rfl, w1, w2, w3]
        refine st_set q1 1 rfl fun H2 q2 => ?_
        simp only [List.set_cons_zero, List.set_cons_succ] at q2
        simp -implicitDefEqProofs only [kz, kk0, kk1, kk2, kk3, ↓two_true, ↓two_false, mkv, aggAt, Nat.reduceLeDiff, Nat.reduceSub, Nat.reduceMul, implies_true, Nat.reduceEqDiff, reduceIte, Nat.reduceAdd, Nat.reduceBEq, reduceCtorEq, al63, bd63, fa120_1, ld3, ld63, st3, st63, q2.rd 0 rfl, q2.rd 1 rfl, w1, w2, w3]
        refine st_set q2 0 rfl fun H3 q3 => ?_
        simp only [List.set_cons_zero, List.set_cons_succ] at q3
        simp -implicitDefEqProofs only [kz, kk0, kk1, kk2, kk3, ↓two_true, ↓two_false, mkv, aggAt, Nat.reduceLeDiff, Nat.reduceSub, Nat.reduceMul, implies_true, Nat.reduceEqDiff, reduceIte, Nat.reduceAdd, Nat.reduceBEq, reduceCtorEq, al63, bd63, fa120_1, ld3, ld63, st3, st63, q3.rd 0 rfl, q3.rd 1 rfl]
        exact ⟨_, _, _, true, _, rfl, q3.tail, by omega, hx, (fun _ => by omega), (fun h => by cases h), fun _ => rfl⟩
      · refine two_intro (fun u => ?_) (fun u => ?_)
        · have hb0 : b ≠ 0 := by intro e; subst e; exact absurd u (by decide)
          have hx : at' + 2 ≤ nt := by have := i1 hb0; omega
          try simp -implicitDefEqProofs only [kz, kk0, kk1, kk2, kk3, ↓two_true, ↓two_false, mkv, aggAt, Nat.reduceLeDiff, Nat.reduceSub, Nat.reduceMul, implies_true, Nat.reduceEqDiff, reduceIte, Nat.reduceAdd, Nat.reduceBEq, reduceCtorEq, al63, bd63, fa120_1, ld3, ld63, st3, st63, q1.rd 0 rfl, q1.rd 1 rfl, w1, w2, w3]
          refine st_set q1 1 rfl fun H2 q2 => ?_
          simp only [List.set_cons_zero, List.set_cons_succ] at q2
          simp -implicitDefEqProofs only [kz, kk0, kk1, kk2, kk3, ↓two_true, ↓two_false, mkv, aggAt, Nat.reduceLeDiff, Nat.reduceSub, Nat.reduceMul, implies_true, Nat.reduceEqDiff, reduceIte, Nat.reduceAdd, Nat.reduceBEq, reduceCtorEq, al63, bd63, fa120_1, ld3, ld63, st3, st63, q2.rd 0 rfl, q2.rd 1 rfl, w1, w2, w3]
          refine st_set q2 0 rfl fun H3 q3 => ?_
          simp only [List.set_cons_zero, List.set_cons_succ] at q3
          simp -implicitDefEqProofs only [kz, kk0, kk1, kk2, kk3, ↓two_true, ↓two_false, mkv, aggAt, Nat.reduceLeDiff, Nat.reduceSub, Nat.reduceMul, implies_true, Nat.reduceEqDiff, reduceIte, Nat.reduceAdd, Nat.reduceBEq, reduceCtorEq, al63, bd63, fa120_1, ld3, ld63, st3, st63, q3.rd 0 rfl, q3.rd 1 rfl]
          exact ⟨_, _, _, true, _, rfl, q3.tail, by omega, hx, (fun _ => by omega), (fun h => by cases h), fun _ => rfl⟩
        · refine two_intro (fun u => ?_) (fun u => ?_)
          · have hb0 : b ≠ 0 := by intro e; subst e; exact absurd u (by decide)
            have hx : at' + 2 ≤ nt := by have := i1 hb0; omega
            try simp -implicitDefEqProofs only [kz, kk0, kk1, kk2, kk3, ↓two_true, ↓two_false, mkv, aggAt, Nat.reduceLeDiff, Nat.reduceSub, Nat.reduceMul, implies_true, Nat.reduceEqDiff, reduceIte, Nat.reduceAdd, Nat.reduceBEq, reduceCtorEq, al63, bd63, fa120_1, ld3, ld63, st3, st63, q1.rd 0 rfl, q1.rd 1 rfl, w1, w2, w3]
            refine st_set q1 1 rfl fun H2 q2 => ?_
            simp only [List.set_cons_zero, List.set_cons_succ] at q2
            simp -implicitDefEqProofs only [kz, kk0, kk1, kk2, kk3, ↓two_true, ↓two_false, mkv, aggAt, Nat.reduceLeDiff, Nat.reduceSub, Nat.reduceMul, implies_true, Nat.reduceEqDiff, reduceIte, Nat.reduceAdd, Nat.reduceBEq, reduceCtorEq, al63, bd63, fa120_1, ld3, ld63, st3, st63, q2.rd 0 rfl, q2.rd 1 rfl, w1, w2, w3]
            refine st_set q2 0 rfl fun H3 q3 => ?_
            simp only [List.set_cons_zero, List.set_cons_succ] at q3
            simp -implicitDefEqProofs only [kz, kk0, kk1, kk2, kk3, ↓two_true, ↓two_false, mkv, aggAt, Nat.reduceLeDiff, Nat.reduceSub, Nat.reduceMul, implies_true, Nat.reduceEqDiff, reduceIte, Nat.reduceAdd, Nat.reduceBEq, reduceCtorEq, al63, bd63, fa120_1, ld3, ld63, st3, st63, q3.rd 0 rfl, q3.rd 1 rfl]
            exact ⟨_, _, _, true, _, rfl, q3.tail, by omega, hx, (fun _ => by omega), (fun h => by cases h), fun _ => rfl⟩
          · refine two_intro (fun u => ?_) (fun u => ?_)
            · refine two_intro (fun u => ?_) (fun u => ?_)
              · have hd0 : d ≠ 0 := by simpa using u
                have hx : at' + 3 ≤ nt := by have := i2 hd0; omega
                try simp -implicitDefEqProofs only [kz, kk0, kk1, kk2, kk3, ↓two_true, ↓two_false, mkv, aggAt, Nat.reduceLeDiff, Nat.reduceSub, Nat.reduceMul, implies_true, Nat.reduceEqDiff, reduceIte, Nat.reduceAdd, Nat.reduceBEq, reduceCtorEq, al63, bd63, fa120_1, ld3, ld63, st3, st63, q1.rd 0 rfl, q1.rd 1 rfl, w1, w2, w3]
                refine st_set q1 1 rfl fun H2 q2 => ?_
                simp only [List.set_cons_zero, List.set_cons_succ] at q2
                simp -implicitDefEqProofs only [kz, kk0, kk1, kk2, kk3, ↓two_true, ↓two_false, mkv, aggAt, Nat.reduceLeDiff, Nat.reduceSub, Nat.reduceMul, implies_true, Nat.reduceEqDiff, reduceIte, Nat.reduceAdd, Nat.reduceBEq, reduceCtorEq, al63, bd63, fa120_1, ld3, ld63, st3, st63, q2.rd 0 rfl, q2.rd 1 rfl, w1, w2, w3]
                refine st_set q2 0 rfl fun H3 q3 => ?_
                simp only [List.set_cons_zero, List.set_cons_succ] at q3
                simp -implicitDefEqProofs only [kz, kk0, kk1, kk2, kk3, ↓two_true, ↓two_false, mkv, aggAt, Nat.reduceLeDiff, Nat.reduceSub, Nat.reduceMul, implies_true, Nat.reduceEqDiff, reduceIte, Nat.reduceAdd, Nat.reduceBEq, reduceCtorEq, al63, bd63, fa120_1, ld3, ld63, st3, st63, q3.rd 0 rfl, q3.rd 1 rfl]
                exact ⟨_, _, _, true, _, rfl, q3.tail, by omega, hx, (fun _ => by omega), (fun h => by cases h), fun _ => rfl⟩
              · have hx : at' + 1 ≤ nt := by have := i0 ha0; omega
                try simp -implicitDefEqProofs only [kz, kk0, kk1, kk2, kk3, ↓two_true, ↓two_false, mkv, aggAt, Nat.reduceLeDiff, Nat.reduceSub, Nat.reduceMul, implies_true, Nat.reduceEqDiff, reduceIte, Nat.reduceAdd, Nat.reduceBEq, reduceCtorEq, al63, bd63, fa120_1, ld3, ld63, st3, st63, q1.rd 0 rfl, q1.rd 1 rfl, w1, w2, w3]
                refine st_set q1 1 rfl fun H2 q2 => ?_
                simp only [List.set_cons_zero, List.set_cons_succ] at q2
                simp -implicitDefEqProofs only [kz, kk0, kk1, kk2, kk3, ↓two_true, ↓two_false, mkv, aggAt, Nat.reduceLeDiff, Nat.reduceSub, Nat.reduceMul, implies_true, Nat.reduceEqDiff, reduceIte, Nat.reduceAdd, Nat.reduceBEq, reduceCtorEq, al63, bd63, fa120_1, ld3, ld63, st3, st63, q2.rd 0 rfl, q2.rd 1 rfl, w1, w2, w3]
                refine st_set q2 0 rfl fun H3 q3 => ?_
                simp only [List.set_cons_zero, List.set_cons_succ] at q3
                simp -implicitDefEqProofs only [kz, kk0, kk1, kk2, kk3, ↓two_true, ↓two_false, mkv, aggAt, Nat.reduceLeDiff, Nat.reduceSub, Nat.reduceMul, implies_true, Nat.reduceEqDiff, reduceIte, Nat.reduceAdd, Nat.reduceBEq, reduceCtorEq, al63, bd63, fa120_1, ld3, ld63, st3, st63, q3.rd 0 rfl, q3.rd 1 rfl]
                exact ⟨_, _, _, true, _, rfl, q3.tail, by omega, hx, (fun _ => by omega), (fun h => by cases h), fun _ => rfl⟩
            · have hx : at' + 1 ≤ nt := by have := i0 ha0; omega
              try simp -implicitDefEqProofs only [kz, kk0, kk1, kk2, kk3, ↓two_true, ↓two_false, mkv, aggAt, Nat.reduceLeDiff, Nat.reduceSub, Nat.reduceMul, implies_true, Nat.reduceEqDiff, reduceIte, Nat.reduceAdd, Nat.reduceBEq, reduceCtorEq, al63, bd63, fa120_1, ld3, ld63, st3, st63, q1.rd 0 rfl, q1.rd 1 rfl, w1, w2, w3]
              refine st_set q1 1 rfl fun H2 q2 => ?_
              simp only [List.set_cons_zero, List.set_cons_succ] at q2
              simp -implicitDefEqProofs only [kz, kk0, kk1, kk2, kk3, ↓two_true, ↓two_false, mkv, aggAt, Nat.reduceLeDiff, Nat.reduceSub, Nat.reduceMul, implies_true, Nat.reduceEqDiff, reduceIte, Nat.reduceAdd, Nat.reduceBEq, reduceCtorEq, al63, bd63, fa120_1, ld3, ld63, st3, st63, q2.rd 0 rfl, q2.rd 1 rfl, w1, w2, w3]
              refine st_set q2 0 rfl fun H3 q3 => ?_
              simp only [List.set_cons_zero, List.set_cons_succ] at q3
              simp -implicitDefEqProofs only [kz, kk0, kk1, kk2, kk3, ↓two_true, ↓two_false, mkv, aggAt, Nat.reduceLeDiff, Nat.reduceSub, Nat.reduceMul, implies_true, Nat.reduceEqDiff, reduceIte, Nat.reduceAdd, Nat.reduceBEq, reduceCtorEq, al63, bd63, fa120_1, ld3, ld63, st3, st63, q3.rd 0 rfl, q3.rd 1 rfl]
              exact ⟨_, _, _, true, _, rfl, q3.tail, by omega, hx, (fun _ => by omega), (fun h => by cases h), fun _ => rfl⟩
    · refine two_intro (fun u => ?_) (fun u => ?_)
      · have hb0 : b ≠ 0 := by intro e; subst e; exact absurd u (by decide)
        have hx : at' + 2 ≤ nt := by have := i1 hb0; omega
        try simp -implicitDefEqProofs only [kz, kk0, kk1, kk2, kk3, ↓two_true, ↓two_false, mkv, aggAt, Nat.reduceLeDiff, Nat.reduceSub, Nat.reduceMul, implies_true, Nat.reduceEqDiff, reduceIte, Nat.reduceAdd, Nat.reduceBEq, reduceCtorEq, al63, bd63, fa120_1, ld3, ld63, st3, st63, q1.rd 0 rfl, q1.rd 1 rfl, w1, w2, w3]
        refine st_set q1 1 rfl fun H2 q2 => ?_
        simp only [List.set_cons_zero, List.set_cons_succ] at q2
        simp -implicitDefEqProofs only [kz, kk0, kk1, kk2, kk3, ↓two_true, ↓two_false, mkv, aggAt, Nat.reduceLeDiff, Nat.reduceSub, Nat.reduceMul, implies_true, Nat.reduceEqDiff, reduceIte, Nat.reduceAdd, Nat.reduceBEq, reduceCtorEq, al63, bd63, fa120_1, ld3, ld63, st3, st63, q2.rd 0 rfl, q2.rd 1 rfl, w1, w2, w3]
        refine st_set q2 0 rfl fun H3 q3 => ?_
        simp only [List.set_cons_zero, List.set_cons_succ] at q3
        simp -implicitDefEqProofs only [kz, kk0, kk1, kk2, kk3, ↓two_true, ↓two_false, mkv, aggAt, Nat.reduceLeDiff, Nat.reduceSub, Nat.reduceMul, implies_true, Nat.reduceEqDiff, reduceIte, Nat.reduceAdd, Nat.reduceBEq, reduceCtorEq, al63, bd63, fa120_1, ld3, ld63, st3, st63, q3.rd 0 rfl, q3.rd 1 rfl]
        exact ⟨_, _, _, true, _, rfl, q3.tail, by omega, hx, (fun _ => by omega), (fun h => by cases h), fun _ => rfl⟩
      · refine two_intro (fun u => ?_) (fun u => ?_)
        · have hb0 : b ≠ 0 := by intro e; subst e; exact absurd u (by decide)
          have hx : at' + 2 ≤ nt := by have := i1 hb0; omega
          try simp -implicitDefEqProofs only [kz, kk0, kk1, kk2, kk3, ↓two_true, ↓two_false, mkv, aggAt, Nat.reduceLeDiff, Nat.reduceSub, Nat.reduceMul, implies_true, Nat.reduceEqDiff, reduceIte, Nat.reduceAdd, Nat.reduceBEq, reduceCtorEq, al63, bd63, fa120_1, ld3, ld63, st3, st63, q1.rd 0 rfl, q1.rd 1 rfl, w1, w2, w3]
          refine st_set q1 1 rfl fun H2 q2 => ?_
          simp only [List.set_cons_zero, List.set_cons_succ] at q2
          simp -implicitDefEqProofs only [kz, kk0, kk1, kk2, kk3, ↓two_true, ↓two_false, mkv, aggAt, Nat.reduceLeDiff, Nat.reduceSub, Nat.reduceMul, implies_true, Nat.reduceEqDiff, reduceIte, Nat.reduceAdd, Nat.reduceBEq, reduceCtorEq, al63, bd63, fa120_1, ld3, ld63, st3, st63, q2.rd 0 rfl, q2.rd 1 rfl, w1, w2, w3]
          refine st_set q2 0 rfl fun H3 q3 => ?_
          simp only [List.set_cons_zero, List.set_cons_succ] at q3
          simp -implicitDefEqProofs only [kz, kk0, kk1, kk2, kk3, ↓two_true, ↓two_false, mkv, aggAt, Nat.reduceLeDiff, Nat.reduceSub, Nat.reduceMul, implies_true, Nat.reduceEqDiff, reduceIte, Nat.reduceAdd, Nat.reduceBEq, reduceCtorEq, al63, bd63, fa120_1, ld3, ld63, st3, st63, q3.rd 0 rfl, q3.rd 1 rfl]
          exact ⟨_, _, _, true, _, rfl, q3.tail, by omega, hx, (fun _ => by omega), (fun h => by cases h), fun _ => rfl⟩
        · refine two_intro (fun u => ?_) (fun u => ?_)
          · refine two_intro (fun u => ?_) (fun u => ?_)
            · have hd0 : d ≠ 0 := by simpa using u
              have hx : at' + 3 ≤ nt := by have := i2 hd0; omega
              try simp -implicitDefEqProofs only [kz, kk0, kk1, kk2, kk3, ↓two_true, ↓two_false, mkv, aggAt, Nat.reduceLeDiff, Nat.reduceSub, Nat.reduceMul, implies_true, Nat.reduceEqDiff, reduceIte, Nat.reduceAdd, Nat.reduceBEq, reduceCtorEq, al63, bd63, fa120_1, ld3, ld63, st3, st63, q1.rd 0 rfl, q1.rd 1 rfl, w1, w2, w3]
              refine st_set q1 1 rfl fun H2 q2 => ?_
              simp only [List.set_cons_zero, List.set_cons_succ] at q2
              simp -implicitDefEqProofs only [kz, kk0, kk1, kk2, kk3, ↓two_true, ↓two_false, mkv, aggAt, Nat.reduceLeDiff, Nat.reduceSub, Nat.reduceMul, implies_true, Nat.reduceEqDiff, reduceIte, Nat.reduceAdd, Nat.reduceBEq, reduceCtorEq, al63, bd63, fa120_1, ld3, ld63, st3, st63, q2.rd 0 rfl, q2.rd 1 rfl, w1, w2, w3]
              refine st_set q2 0 rfl fun H3 q3 => ?_
              simp only [List.set_cons_zero, List.set_cons_succ] at q3
              simp -implicitDefEqProofs only [kz, kk0, kk1, kk2, kk3, ↓two_true, ↓two_false, mkv, aggAt, Nat.reduceLeDiff, Nat.reduceSub, Nat.reduceMul, implies_true, Nat.reduceEqDiff, reduceIte, Nat.reduceAdd, Nat.reduceBEq, reduceCtorEq, al63, bd63, fa120_1, ld3, ld63, st3, st63, q3.rd 0 rfl, q3.rd 1 rfl]
              exact ⟨_, _, _, true, _, rfl, q3.tail, by omega, hx, (fun _ => by omega), (fun h => by cases h), fun _ => rfl⟩
            · have hx : at' + 1 ≤ nt := by have := i0 ha0; omega
              try simp -implicitDefEqProofs only [kz, kk0, kk1, kk2, kk3, ↓two_true, ↓two_false, mkv, aggAt, Nat.reduceLeDiff, Nat.reduceSub, Nat.reduceMul, implies_true, Nat.reduceEqDiff, reduceIte, Nat.reduceAdd, Nat.reduceBEq, reduceCtorEq, al63, bd63, fa120_1, ld3, ld63, st3, st63, q1.rd 0 rfl, q1.rd 1 rfl, w1, w2, w3]
              refine st_set q1 1 rfl fun H2 q2 => ?_
              simp only [List.set_cons_zero, List.set_cons_succ] at q2
              simp -implicitDefEqProofs only [kz, kk0, kk1, kk2, kk3, ↓two_true, ↓two_false, mkv, aggAt, Nat.reduceLeDiff, Nat.reduceSub, Nat.reduceMul, implies_true, Nat.reduceEqDiff, reduceIte, Nat.reduceAdd, Nat.reduceBEq, reduceCtorEq, al63, bd63, fa120_1, ld3, ld63, st3, st63, q2.rd 0 rfl, q2.rd 1 rfl, w1, w2, w3]
              refine st_set q2 0 rfl fun H3 q3 => ?_
              simp only [List.set_cons_zero, List.set_cons_succ] at q3
              simp -implicitDefEqProofs only [kz, kk0, kk1, kk2, kk3, ↓two_true, ↓two_false, mkv, aggAt, Nat.reduceLeDiff, Nat.reduceSub, Nat.reduceMul, implies_true, Nat.reduceEqDiff, reduceIte, Nat.reduceAdd, Nat.reduceBEq, reduceCtorEq, al63, bd63, fa120_1, ld3, ld63, st3, st63, q3.rd 0 rfl, q3.rd 1 rfl]
              exact ⟨_, _, _, true, _, rfl, q3.tail, by omega, hx, (fun _ => by omega), (fun h => by cases h), fun _ => rfl⟩
          · have hx : at' + 1 ≤ nt := by have := i0 ha0; omega
            try simp -implicitDefEqProofs only [kz, kk0, kk1, kk2, kk3, ↓two_true, ↓two_false, mkv, aggAt, Nat.reduceLeDiff, Nat.reduceSub, Nat.reduceMul, implies_true, Nat.reduceEqDiff, reduceIte, Nat.reduceAdd, Nat.reduceBEq, reduceCtorEq, al63, bd63, fa120_1, ld3, ld63, st3, st63, q1.rd 0 rfl, q1.rd 1 rfl, w1, w2, w3]
            refine st_set q1 1 rfl fun H2 q2 => ?_
            simp only [List.set_cons_zero, List.set_cons_succ] at q2
            simp -implicitDefEqProofs only [kz, kk0, kk1, kk2, kk3, ↓two_true, ↓two_false, mkv, aggAt, Nat.reduceLeDiff, Nat.reduceSub, Nat.reduceMul, implies_true, Nat.reduceEqDiff, reduceIte, Nat.reduceAdd, Nat.reduceBEq, reduceCtorEq, al63, bd63, fa120_1, ld3, ld63, st3, st63, q2.rd 0 rfl, q2.rd 1 rfl, w1, w2, w3]
            refine st_set q2 0 rfl fun H3 q3 => ?_
            simp only [List.set_cons_zero, List.set_cons_succ] at q3
            simp -implicitDefEqProofs only [kz, kk0, kk1, kk2, kk3, ↓two_true, ↓two_false, mkv, aggAt, Nat.reduceLeDiff, Nat.reduceSub, Nat.reduceMul, implies_true, Nat.reduceEqDiff, reduceIte, Nat.reduceAdd, Nat.reduceBEq, reduceCtorEq, al63, bd63, fa120_1, ld3, ld63, st3, st63, q3.rd 0 rfl, q3.rd 1 rfl]
            exact ⟨_, _, _, true, _, rfl, q3.tail, by omega, hx, (fun _ => by omega), (fun h => by cases h), fun _ => rfl⟩

theorem lit7 {B : Nat → Prop} {c0 : Option Nat} {H0 H : AH} {L : List Ix} {b : Nat} {k a b' s o w : Int} {p : Value} {l : List Int} (h : LB B c0 H0 H L) (j : Nat) (hj : L[j]? = some (.own (.box b [.int .i64 k, .int .i64 a, .int .i64 b', .int .i64 s, .int .i64 o, .int .i64 w, p]))) (hp : KOk H .r p ∧ rowI H p = l ∧ ∀ g, blkOf p = some g → B g) :
    FRow H (.slice (some ⟨b, 0, none⟩) 1 7) kExpr 1 [.int .i64 k, .int .i64 a, .int .i64 b', .int .i64 s, .int .i64 o, .int .i64 w, p] ∧ cvs H [.int .i64 k, .int .i64 a, .int .i64 b', .int .i64 s, .int .i64 o, .int .i64 w, p] = [.i k, .i a, .i b', .i s, .i o, .i w, .r l] ∧ ∀ y ∈ [.int .i64 k, .int .i64 a, .int .i64 b', .int .i64 s, .int .i64 o, .int .i64 w, p], ∀ g, blkOf y = some g → B g := by
  have hb : H[b]? = some ⟨[.int .i64 k, .int .i64 a, .int .i64 b', .int .i64 s, .int .i64 o, .int .i64 w, p], .own⟩ := h.ok j _ hj
  obtain ⟨p1, p2, p3⟩ := hp
  refine ⟨⟨rfl, .inr ⟨b, 0, _, rfl, rd_own hb, by simp [kExpr], fun j y hy => by rw [Nat.zero_add]; exact hy⟩, ?_⟩, ?_, ?_⟩
  · intro i c kk y hi hk hy
    obtain rfl : i = 0 := by omega
    match c with
    | 0 => simp [kExpr] at hk hy; subst hk; subst hy; exact ⟨_, rfl⟩
    | 1 => simp [kExpr] at hk hy; subst hk; subst hy; exact ⟨_, rfl⟩
    | 2 => simp [kExpr] at hk hy; subst hk; subst hy; exact ⟨_, rfl⟩
    | 3 => simp [kExpr] at hk hy; subst hk; subst hy; exact ⟨_, rfl⟩
    | 4 => simp [kExpr] at hk hy; subst hk; subst hy; exact ⟨_, rfl⟩
    | 5 => simp [kExpr] at hk hy; subst hk; subst hy; exact ⟨_, rfl⟩
    | 6 => simp [kExpr] at hk hy; subst hk; subst hy; exact p1
    | c + 7 => simp [kExpr] at hk
  · simp only [cvs, List.map_cons, List.map_nil, cv_int, cv_row p1.1, p2]
  · intro y hy g hg
    simp only [List.mem_cons, List.not_mem_nil, or_false] at hy
    rcases hy with rfl | rfl | rfl | rfl | rfl | rfl | rfl
    · simp [blkOf] at hg
    · simp [blkOf] at hg
    · simp [blkOf] at hg
    · simp [blkOf] at hg
    · simp [blkOf] at hg
    · simp [blkOf] at hg
    · exact p3 g hg
theorem st_app7 {c0 : Option Nat} {H0 H : AH} {L : List Ix} {Φ : Value → AH → Prop} {v : Value} {n b : Nat} {xs : List Value} {V : List CV} {k a b' s o w : Int} {p : Value} {l : List Int} (q : LX c0 H0 H L) (i j : Nat) (hi : L[i]? = some (.tab v kExpr n xs V)) (hj : L[j]? = some (.own (.box b [.int .i64 k, .int .i64 a, .int .i64 b', .int .i64 s, .int .i64 o, .int .i64 w, p])))
    (hp : ∀ B, LB B c0 H0 H L → KOk H .r p ∧ rowI H p = l ∧ ∀ g, blkOf p = some g → B g) (hl : n + 1 ≤ 1073741824)
    (hk : ∀ a2 c2 H' ys, LX c0 H0 H' (L.set i (.tab (.slice a2 (n + 1) c2) kExpr (n + 1) ys (V ++ [.i k, .i a, .i b', .i s, .i o, .i w, .r l]))) → Φ (.slice a2 (n + 1) c2) H') : oA (app 7 v (.slice (some ⟨b, 0, none⟩) 1 7) H) Φ :=
  st_appT 7 rfl q i hi (fun _ h => lit7 h j hj (hp _ h)) hl fun a2 c2 H' g => hk a2 c2 H' _ g
theorem nilRow {H : AH} {B : Nat → Prop} : KOk H .r (.slice none 0 0) ∧ rowI H (.slice none 0 0) = [] ∧ ∀ g, blkOf (.slice none 0 0) = some g → B g :=
  ⟨(OwnRow.nil.kok (by simp)).1, by have := (OwnRow.nil (H := H)).int; exact this.row, fun g hg => by simp [blkOf] at hg⟩
theorem TabOk.row7 {B : Nat → Prop} {H : AH} {v : Value} {n : Nat} {xs : List Value} (t : TabOk B H v kExpr n xs) {i : Nat} (hi : i < n) {c0 c1 c2 c3 c4 c5 p : Value} (he : elm 7 xs i = [c0, c1, c2, c3, c4, c5, p]) : KOk H .r p ∧ ∀ g, blkOf p = some g → B g := by
  have h6 : xs[i * 7 + 6]? = some p := by
    have := elm_get (s := 7) (xs := xs) (i := i) (c := 6) (by decide)
    rw [he] at this
    exact this.symm
  exact ⟨t.cell i 6 .r p hi rfl h6, fun g hg => t.base p (List.mem_of_getElem? h6) g hg⟩
theorem FRow.row7' {H : AH} {v : Value} {n : Nat} {xs : List Value} (t : FRow H v kExpr n xs) {i : Nat} (hi : i < n) {c0 c1 c2 c3 c4 c5 p : Value} (he : elm 7 xs i = [c0, c1, c2, c3, c4, c5, p]) : OkI H p := by
  have h6 : xs[i * 7 + 6]? = some p := by
    have := elm_get (s := 7) (xs := xs) (i := i) (c := 6) (by decide)
    rw [he] at this
    exact this.symm
  exact (t.ok i 6 .r p hi rfl h6).1
/-- A node that is put behind others. -/
def shN (n : Nat) (x : Nd) : Nd :=
  if x.k = 5 then ⟨x.k, IntKind.i64.wrap (x.a + n), IntKind.i64.wrap (x.b + n), x.s, x.o, x.w, x.nums⟩
  else if x.k = 4 ∨ x.k = 3 then ⟨x.k, x.a, IntKind.i64.wrap (x.b + n), x.s, x.o, x.w, x.nums⟩ else x
theorem ndL_snoc {V C : List CV} {n : Nat} (hV : V.length = n * 7) (hC : C.length = 7) : ndL (V ++ C) (n + 1) = ndL V n ++ [ndOf C] := by
  unfold ndL chunk
  rw [List.range_succ, List.map_append, List.map_append, List.map_map, List.map_map]
  congr 1
  · rw [List.map_map]
    refine List.map_congr_left fun i hi => ?_
    have hi := List.mem_range.1 hi
    simp only [Function.comp_apply]
    congr 1
    rw [List.drop_append_of_le_length (by rw [hV]; omega), List.take_append_of_le_length (by rw [List.length_drop, hV]; omega)]
  · simp only [List.map_cons, List.map_nil, Function.comp_apply]
    congr 2
    rw [← hV, List.drop_left, List.take_of_length_le (by omega)]
theorem ndL_zero {V : List CV} : ndL V 0 = [] := rfl

set_option maxHeartbeats 4000000 in
theorem l9Behind_ok {c0 : Option Nat} {H0 H : AH} {L : List Ix} {cb : Nat} {ta na la : Option Addr} {tc nt at' m nc k lc : Nat} {xs ys : List Value} {V W : List CV} (q : LX c0 H0 H (.own (.box cb [.slice ta nt tc, .int .i64 (at' : Nat), .slice na m nc]) :: .tab (.slice na m nc) kExpr m xs V :: .tab (.slice la k lc) kExpr k ys W :: L)) (hmk : m + k ≤ 600) :
    CallsA Try.prog 113 #[.pointer (some ⟨cb, 0, none⟩), .slice la k lc] H fun r H' => ∃ a c zs Z, LX c0 H0 H' (.own (.box cb [.slice ta nt tc, .int .i64 (at' : Nat), .slice a (m + k) c]) :: .tab (.slice a (m + k) c) kExpr (m + k) zs Z :: .tab (.slice la k lc) kExpr k ys W :: L) ∧ ndL Z (m + k) = ndL V m ++ (ndL W k).map (shN m) := by
  refine w113 ?_
  unfold k113
  simp -implicitDefEqProofs only [kz, kk0, kk1, kk2, kk3, ↓two_true, ↓two_false, mkv, aggAt, Nat.reduceLeDiff, Nat.reduceSub, Nat.reduceMul, implies_true, Nat.reduceEqDiff, reduceIte, Nat.reduceAdd, Nat.reduceBEq, reduceCtorEq, al77, ap37_37, bs37_1, fa77_0, fa77_1, fa77_2, fa120_2, ix37, ld3, ld37, ld77, ln37, st3, st37, st77, q.rd 0 rfl]
  refine rW_loop (σ := Nat) (fun i tm H' => ∃ a c zs Z, tm 0 = .pointer (some ⟨cb, 0, none⟩) ∧ tm 1 = .slice la k lc ∧ tm 4 = .int .i64 m ∧ tm 5 = .int .i64 i ∧ i ≤ k ∧ LX c0 H0 H' (.own (.box cb [.slice ta nt tc, .int .i64 (at' : Nat), .slice a (m + i) c]) :: .tab (.slice a (m + i) c) kExpr (m + i) zs Z :: .tab (.slice la k lc) kExpr k ys W :: L) ∧ ndL Z (m + i) = ndL V m ++ ((ndL W k).take i).map (shN m)) (fun i => k - i) 0 ?_ ?_
  · exact ⟨na, nc, xs, V, rfl, rfl, rfl, rfl, Nat.zero_le _, q, by simp⟩
  · rintro i tm H1 ⟨a, c, zs, Z, h0, h1, h4, h5, hi, q1, hZ⟩
    simp -implicitDefEqProofs only [kz, kk0, kk1, kk2, kk3, ↓two_true, ↓two_false, mkv, aggAt, Nat.reduceLeDiff, Nat.reduceSub, Nat.reduceMul, implies_true, Nat.reduceEqDiff, reduceIte, Nat.reduceAdd, Nat.reduceBEq, reduceCtorEq, al77, ap37_37, bs37_1, fa77_0, fa77_1, fa77_2, fa120_2, ix37, ld3, ld37, ld77, ln37, st3, st37, st77, h0, h1, h4, h5]
    refine two_intro (fun u => ?_) (fun u => ?_)
    · have hlt : i < k := by have := of_decide_eq_true u; omega
      obtain ⟨f1, f2⟩ := q1.tb 2 rfl
      obtain ⟨la', lc', e, gv⟩ := f1.opn 7 rfl
      simp only [Value.slice.injEq, true_and] at e
      obtain ⟨rfl, rfl⟩ := e
      obtain ⟨b, o, cs, rfl, rfl, hrd, hle, hcell⟩ := gv (by omega)
      have x1 := f1.elemn 7 rfl hlt
      have l1 : ld Try.prog 77 (o + i * 7) cs = some (.agg (elm 7 ys i).toArray) := by rw [ld77]; exact (hcell i hlt).1
      have hel : ∃ ex, ex = elm 7 ys i := ⟨_, rfl⟩
      obtain ⟨ex, hex⟩ := hel
      rw [← hex] at x1 l1
      obtain ⟨xk, xa, xb, xs', xo, xw, p, rfl, ky, -⟩ := all2_expr x1
      obtain ⟨pa, pc, ep⟩ := ky.1.slice
      generalize hpl : (rowI H1 p).length = pl at ep
      subst ep
      clear x1 ky hpl
      have g1 : (0 : Int) ≤ (i : Int) ∧ (i : Int) < (k : Int) := by omega
      have wi : IntKind.i64.wrap ((i : Int) + 1) = ((i + 1 : Nat) : Int) := IntWalk.i64_in ((i : Int) + 1) (by omega)
      simp -implicitDefEqProofs only [kz, kk0, kk1, kk2, kk3, ↓two_true, ↓two_false, mkv, aggAt, Nat.reduceLeDiff, Nat.reduceSub, Nat.reduceMul, implies_true, Nat.reduceEqDiff, reduceIte, Nat.reduceAdd, Nat.reduceBEq, reduceCtorEq, al77, ap37_37, bs37_1, fa77_0, fa77_1, fa77_2, fa120_2, ix37, ld3, ld37, ld77, ln37, st3, st37, st77, h0, h1, h4, h5, if_pos g1, Int.toNat_natCast, hrd, l1]
      have hZl : Z.length = (m + i) * 7 := by
        obtain ⟨e1, e2⟩ := q1.tb 1 rfl
        rw [← e2]
        have := e1.len
        simp only [cvs, List.length_map]
        exact this
      refine st_box q1 fun H2 q2 => ?_
      simp -implicitDefEqProofs only [kz, kk0, kk1, kk2, kk3, ↓two_true, ↓two_false, mkv, aggAt, Nat.reduceLeDiff, Nat.reduceSub, Nat.reduceMul, implies_true, Nat.reduceEqDiff, reduceIte, Nat.reduceAdd, Nat.reduceBEq, reduceCtorEq, al77, ap37_37, bs37_1, fa77_0, fa77_1, fa77_2, fa120_2, ix37, ld3, ld37, ld77, ln37, st3, st37, st77, h0, h1, h4, h5, wi, q2.rd 0 rfl]
      refine st_set q2 0 rfl fun H3 q3 => ?_
      simp only [List.set_cons_zero, List.set_cons_succ] at q3
      simp -implicitDefEqProofs only [kz, kk0, kk1, kk2, kk3, ↓two_true, ↓two_false, mkv, aggAt, Nat.reduceLeDiff, Nat.reduceSub, Nat.reduceMul, implies_true, Nat.reduceEqDiff, reduceIte, Nat.reduceAdd, Nat.reduceBEq, reduceCtorEq, al77, ap37_37, bs37_1, fa77_0, fa77_1, fa77_2, fa120_2, ix37, ld3, ld37, ld77, ln37, st3, st37, st77, h0, h1, h4, h5, wi, q3.rd 0 rfl, q3.rd 1 rfl]
      refine two_intro (fun u5 => ?_) (fun u5 => ?_)
      · have e5 : xk = 5 := by simpa using u5
        refine st_set q3 0 rfl fun H4 q4 => ?_
        simp only [List.set_cons_zero, List.set_cons_succ] at q4
        simp -implicitDefEqProofs only [kz, kk0, kk1, kk2, kk3, ↓two_true, ↓two_false, mkv, aggAt, Nat.reduceLeDiff, Nat.reduceSub, Nat.reduceMul, implies_true, Nat.reduceEqDiff, reduceIte, Nat.reduceAdd, Nat.reduceBEq, reduceCtorEq, al77, ap37_37, bs37_1, fa77_0, fa77_1, fa77_2, fa120_2, ix37, ld3, ld37, ld77, ln37, st3, st37, st77, h0, h1, h4, h5, wi, q4.rd 0 rfl, q4.rd 1 rfl]
        refine st_set q4 0 rfl fun H5 qz => ?_
        simp only [List.set_cons_zero, List.set_cons_succ] at qz
        try simp -implicitDefEqProofs only [kz, kk0, kk1, kk2, kk3, ↓two_true, ↓two_false, mkv, aggAt, Nat.reduceLeDiff, Nat.reduceSub, Nat.reduceMul, implies_true, Nat.reduceEqDiff, reduceIte, Nat.reduceAdd, Nat.reduceBEq, reduceCtorEq, al77, ap37_37, bs37_1, fa77_0, fa77_1, fa77_2, fa120_2, ix37, ld3, ld37, ld77, ln37, st3, st37, st77, h0, h1, h4, h5, wi, qz.rd 0 rfl, qz.rd 1 rfl]
        refine st_cells qz fun H9 q9 => ?_
        simp -implicitDefEqProofs only [kz, kk0, kk1, kk2, kk3, ↓two_true, ↓two_false, mkv, aggAt, Nat.reduceLeDiff, Nat.reduceSub, Nat.reduceMul, implies_true, Nat.reduceEqDiff, reduceIte, Nat.reduceAdd, Nat.reduceBEq, reduceCtorEq, al77, ap37_37, bs37_1, fa77_0, fa77_1, fa77_2, fa120_2, ix37, ld3, ld37, ld77, ln37, st3, st37, st77, h0, h1, h4, h5, wi, q9.rd 0 rfl, q9.rd 1 rfl, q9.rd 2 rfl]
        refine st_app7 (l := rowI H9 (.slice pa pl pc)) q9 3 0 rfl rfl (fun B h => ⟨(TabOk.row7 (h.ok 4 _ rfl).1 hlt hex.symm).1, rfl, (TabOk.row7 (h.ok 4 _ rfl).1 hlt hex.symm).2⟩) (by omega) fun a2 c2 H10 zs2 q10 => ?_
        simp only [List.set_cons_zero, List.set_cons_succ] at q10
        simp -implicitDefEqProofs only [kz, kk0, kk1, kk2, kk3, ↓two_true, ↓two_false, mkv, aggAt, Nat.reduceLeDiff, Nat.reduceSub, Nat.reduceMul, implies_true, Nat.reduceEqDiff, reduceIte, Nat.reduceAdd, Nat.reduceBEq, reduceCtorEq, al77, ap37_37, bs37_1, fa77_0, fa77_1, fa77_2, fa120_2, ix37, ld3, ld37, ld77, ln37, st3, st37, st77, h0, h1, h4, h5, wi, q10.rd 0 rfl, q10.rd 1 rfl, q10.rd 2 rfl]
        refine st_set q10 2 rfl fun H11 q11 => ?_
        simp only [List.set_cons_zero, List.set_cons_succ] at q11
        simp -implicitDefEqProofs only [kz, kk0, kk1, kk2, kk3, ↓two_true, ↓two_false, mkv, aggAt, Nat.reduceLeDiff, Nat.reduceSub, Nat.reduceMul, implies_true, Nat.reduceEqDiff, reduceIte, Nat.reduceAdd, Nat.reduceBEq, reduceCtorEq, al77, ap37_37, bs37_1, fa77_0, fa77_1, fa77_2, fa120_2, ix37, ld3, ld37, ld77, ln37, st3, st37, st77, h0, h1, h4, h5, wi]
        have q12 := q11.front 5 [2, 3, 4] (by decide) rfl
        simp only [List.filterMap_cons, List.filterMap_nil, List.getElem?_cons_zero, List.getElem?_cons_succ, List.drop_succ_cons, List.drop_zero, List.cons_append, List.nil_append] at q12
        refine ⟨i + 1, by omega, a2, c2, zs2, _, rfl, hlt, q12, ?_⟩
        obtain ⟨f9, g9⟩ := q9.tb 4 rfl
        have hnd := ndL_get (H := H9) (xs := ys) hlt
        rw [g9, ← hex] at hnd
        simp only [List.map_cons, List.map_nil, cv_int, cv_row (f9.row7' hlt hex.symm), ndOf] at hnd
        rw [show m + (i + 1) = m + i + 1 by omega, ndL_snoc hZl rfl, hZ, List.take_add_one, hnd, List.map_append, List.append_assoc]
        congr 2
        simp only [Option.toList_some, List.map_cons, List.map_nil, ndOf]
        unfold shN; rw [if_pos e5]
      · have e5 : xk ≠ 5 := by simpa using u5
        by_cases e4 : xk = 4
        · have b4 : (xk == 4) = true := by simpa using e4
          simp -implicitDefEqProofs only [kz, kk0, kk1, kk2, kk3, ↓two_true, ↓two_false, mkv, aggAt, Nat.reduceLeDiff, Nat.reduceSub, Nat.reduceMul, implies_true, Nat.reduceEqDiff, reduceIte, Nat.reduceAdd, Nat.reduceBEq, reduceCtorEq, al77, ap37_37, bs37_1, fa77_0, fa77_1, fa77_2, fa120_2, ix37, ld3, ld37, ld77, ln37, st3, st37, st77, h0, h1, h4, h5, wi, q3.rd 0 rfl, q3.rd 1 rfl, b4]
          refine st_set q3 0 rfl fun H5 qz => ?_
          simp only [List.set_cons_zero, List.set_cons_succ] at qz
          try simp -implicitDefEqProofs only [kz, kk0, kk1, kk2, kk3, ↓two_true, ↓two_false, mkv, aggAt, Nat.reduceLeDiff, Nat.reduceSub, Nat.reduceMul, implies_true, Nat.reduceEqDiff, reduceIte, Nat.reduceAdd, Nat.reduceBEq, reduceCtorEq, al77, ap37_37, bs37_1, fa77_0, fa77_1, fa77_2, fa120_2, ix37, ld3, ld37, ld77, ln37, st3, st37, st77, h0, h1, h4, h5, wi, qz.rd 0 rfl, qz.rd 1 rfl]
          refine st_cells qz fun H9 q9 => ?_
          simp -implicitDefEqProofs only [kz, kk0, kk1, kk2, kk3, ↓two_true, ↓two_false, mkv, aggAt, Nat.reduceLeDiff, Nat.reduceSub, Nat.reduceMul, implies_true, Nat.reduceEqDiff, reduceIte, Nat.reduceAdd, Nat.reduceBEq, reduceCtorEq, al77, ap37_37, bs37_1, fa77_0, fa77_1, fa77_2, fa120_2, ix37, ld3, ld37, ld77, ln37, st3, st37, st77, h0, h1, h4, h5, wi, q9.rd 0 rfl, q9.rd 1 rfl, q9.rd 2 rfl]
          refine st_app7 (l := rowI H9 (.slice pa pl pc)) q9 3 0 rfl rfl (fun B h => ⟨(TabOk.row7 (h.ok 4 _ rfl).1 hlt hex.symm).1, rfl, (TabOk.row7 (h.ok 4 _ rfl).1 hlt hex.symm).2⟩) (by omega) fun a2 c2 H10 zs2 q10 => ?_
          simp only [List.set_cons_zero, List.set_cons_succ] at q10
          simp -implicitDefEqProofs only [kz, kk0, kk1, kk2, kk3, ↓two_true, ↓two_false, mkv, aggAt, Nat.reduceLeDiff, Nat.reduceSub, Nat.reduceMul, implies_true, Nat.reduceEqDiff, reduceIte, Nat.reduceAdd, Nat.reduceBEq, reduceCtorEq, al77, ap37_37, bs37_1, fa77_0, fa77_1, fa77_2, fa120_2, ix37, ld3, ld37, ld77, ln37, st3, st37, st77, h0, h1, h4, h5, wi, q10.rd 0 rfl, q10.rd 1 rfl, q10.rd 2 rfl]
          refine st_set q10 2 rfl fun H11 q11 => ?_
          simp only [List.set_cons_zero, List.set_cons_succ] at q11
          simp -implicitDefEqProofs only [kz, kk0, kk1, kk2, kk3, ↓two_true, ↓two_false, mkv, aggAt, Nat.reduceLeDiff, Nat.reduceSub, Nat.reduceMul, implies_true, Nat.reduceEqDiff, reduceIte, Nat.reduceAdd, Nat.reduceBEq, reduceCtorEq, al77, ap37_37, bs37_1, fa77_0, fa77_1, fa77_2, fa120_2, ix37, ld3, ld37, ld77, ln37, st3, st37, st77, h0, h1, h4, h5, wi]
          have q12 := q11.front 5 [2, 3, 4] (by decide) rfl
          simp only [List.filterMap_cons, List.filterMap_nil, List.getElem?_cons_zero, List.getElem?_cons_succ, List.drop_succ_cons, List.drop_zero, List.cons_append, List.nil_append] at q12
          refine ⟨i + 1, by omega, a2, c2, zs2, _, rfl, hlt, q12, ?_⟩
          obtain ⟨f9, g9⟩ := q9.tb 4 rfl
          have hnd := ndL_get (H := H9) (xs := ys) hlt
          rw [g9, ← hex] at hnd
          simp only [List.map_cons, List.map_nil, cv_int, cv_row (f9.row7' hlt hex.symm), ndOf] at hnd
          rw [show m + (i + 1) = m + i + 1 by omega, ndL_snoc hZl rfl, hZ, List.take_add_one, hnd, List.map_append, List.append_assoc]
          congr 2
          simp only [Option.toList_some, List.map_cons, List.map_nil, ndOf]
          unfold shN; rw [if_neg (by simp only; omega), if_pos (by simp only; omega)]
        · have b4 : (xk == 4) = false := by simpa using e4
          by_cases e3 : xk = 3
          · have b3 : (xk == 3) = true := by simpa using e3
            simp -implicitDefEqProofs only [kz, kk0, kk1, kk2, kk3, ↓two_true, ↓two_false, mkv, aggAt, Nat.reduceLeDiff, Nat.reduceSub, Nat.reduceMul, implies_true, Nat.reduceEqDiff, reduceIte, Nat.reduceAdd, Nat.reduceBEq, reduceCtorEq, al77, ap37_37, bs37_1, fa77_0, fa77_1, fa77_2, fa120_2, ix37, ld3, ld37, ld77, ln37, st3, st37, st77, h0, h1, h4, h5, wi, q3.rd 0 rfl, q3.rd 1 rfl, b4, b3]
            refine st_set q3 0 rfl fun H5 qz => ?_
            simp only [List.set_cons_zero, List.set_cons_succ] at qz
            try simp -implicitDefEqProofs only [kz, kk0, kk1, kk2, kk3, ↓two_true, ↓two_false, mkv, aggAt, Nat.reduceLeDiff, Nat.reduceSub, Nat.reduceMul, implies_true, Nat.reduceEqDiff, reduceIte, Nat.reduceAdd, Nat.reduceBEq, reduceCtorEq, al77, ap37_37, bs37_1, fa77_0, fa77_1, fa77_2, fa120_2, ix37, ld3, ld37, ld77, ln37, st3, st37, st77, h0, h1, h4, h5, wi, qz.rd 0 rfl, qz.rd 1 rfl]
            refine st_cells qz fun H9 q9 => ?_
            simp -implicitDefEqProofs only [kz, kk0, kk1, kk2, kk3, ↓two_true, ↓two_false, mkv, aggAt, Nat.reduceLeDiff, Nat.reduceSub, Nat.reduceMul, implies_true, Nat.reduceEqDiff, reduceIte, Nat.reduceAdd, Nat.reduceBEq, reduceCtorEq, al77, ap37_37, bs37_1, fa77_0, fa77_1, fa77_2, fa120_2, ix37, ld3, ld37, ld77, ln37, st3, st37, st77, h0, h1, h4, h5, wi, q9.rd 0 rfl, q9.rd 1 rfl, q9.rd 2 rfl]
            refine st_app7 (l := rowI H9 (.slice pa pl pc)) q9 3 0 rfl rfl (fun B h => ⟨(TabOk.row7 (h.ok 4 _ rfl).1 hlt hex.symm).1, rfl, (TabOk.row7 (h.ok 4 _ rfl).1 hlt hex.symm).2⟩) (by omega) fun a2 c2 H10 zs2 q10 => ?_
            simp only [List.set_cons_zero, List.set_cons_succ] at q10
            simp -implicitDefEqProofs only [kz, kk0, kk1, kk2, kk3, ↓two_true, ↓two_false, mkv, aggAt, Nat.reduceLeDiff, Nat.reduceSub, Nat.reduceMul, implies_true, Nat.reduceEqDiff, reduceIte, Nat.reduceAdd, Nat.reduceBEq, reduceCtorEq, al77, ap37_37, bs37_1, fa77_0, fa77_1, fa77_2, fa120_2, ix37, ld3, ld37, ld77, ln37, st3, st37, st77, h0, h1, h4, h5, wi, q10.rd 0 rfl, q10.rd 1 rfl, q10.rd 2 rfl]
            refine st_set q10 2 rfl fun H11 q11 => ?_
            simp only [List.set_cons_zero, List.set_cons_succ] at q11
            simp -implicitDefEqProofs only [kz, kk0, kk1, kk2, kk3, ↓two_true, ↓two_false, mkv, aggAt, Nat.reduceLeDiff, Nat.reduceSub, Nat.reduceMul, implies_true, Nat.reduceEqDiff, reduceIte, Nat.reduceAdd, Nat.reduceBEq, reduceCtorEq, al77, ap37_37, bs37_1, fa77_0, fa77_1, fa77_2, fa120_2, ix37, ld3, ld37, ld77, ln37, st3, st37, st77, h0, h1, h4, h5, wi]
            have q12 := q11.front 5 [2, 3, 4] (by decide) rfl
            simp only [List.filterMap_cons, List.filterMap_nil, List.getElem?_cons_zero, List.getElem?_cons_succ, List.drop_succ_cons, List.drop_zero, List.cons_append, List.nil_append] at q12
            refine ⟨i + 1, by omega, a2, c2, zs2, _, rfl, hlt, q12, ?_⟩
            obtain ⟨f9, g9⟩ := q9.tb 4 rfl
            have hnd := ndL_get (H := H9) (xs := ys) hlt
            rw [g9, ← hex] at hnd
            simp only [List.map_cons, List.map_nil, cv_int, cv_row (f9.row7' hlt hex.symm), ndOf] at hnd
            rw [show m + (i + 1) = m + i + 1 by omega, ndL_snoc hZl rfl, hZ, List.take_add_one, hnd, List.map_append, List.append_assoc]
            congr 2
            simp only [Option.toList_some, List.map_cons, List.map_nil, ndOf]
            unfold shN; rw [if_neg (by simp only; omega), if_pos (by simp only; omega)]
          · have b3 : (xk == 3) = false := by simpa using e3
            simp -implicitDefEqProofs only [kz, kk0, kk1, kk2, kk3, ↓two_true, ↓two_false, mkv, aggAt, Nat.reduceLeDiff, Nat.reduceSub, Nat.reduceMul, implies_true, Nat.reduceEqDiff, reduceIte, Nat.reduceAdd, Nat.reduceBEq, reduceCtorEq, al77, ap37_37, bs37_1, fa77_0, fa77_1, fa77_2, fa120_2, ix37, ld3, ld37, ld77, ln37, st3, st37, st77, h0, h1, h4, h5, wi, q3.rd 0 rfl, q3.rd 1 rfl, b4, b3]
            have qz := q3
            try simp -implicitDefEqProofs only [kz, kk0, kk1, kk2, kk3, ↓two_true, ↓two_false, mkv, aggAt, Nat.reduceLeDiff, Nat.reduceSub, Nat.reduceMul, implies_true, Nat.reduceEqDiff, reduceIte, Nat.reduceAdd, Nat.reduceBEq, reduceCtorEq, al77, ap37_37, bs37_1, fa77_0, fa77_1, fa77_2, fa120_2, ix37, ld3, ld37, ld77, ln37, st3, st37, st77, h0, h1, h4, h5, wi, qz.rd 0 rfl, qz.rd 1 rfl]
            refine st_cells qz fun H9 q9 => ?_
            simp -implicitDefEqProofs only [kz, kk0, kk1, kk2, kk3, ↓two_true, ↓two_false, mkv, aggAt, Nat.reduceLeDiff, Nat.reduceSub, Nat.reduceMul, implies_true, Nat.reduceEqDiff, reduceIte, Nat.reduceAdd, Nat.reduceBEq, reduceCtorEq, al77, ap37_37, bs37_1, fa77_0, fa77_1, fa77_2, fa120_2, ix37, ld3, ld37, ld77, ln37, st3, st37, st77, h0, h1, h4, h5, wi, q9.rd 0 rfl, q9.rd 1 rfl, q9.rd 2 rfl]
            refine st_app7 (l := rowI H9 (.slice pa pl pc)) q9 3 0 rfl rfl (fun B h => ⟨(TabOk.row7 (h.ok 4 _ rfl).1 hlt hex.symm).1, rfl, (TabOk.row7 (h.ok 4 _ rfl).1 hlt hex.symm).2⟩) (by omega) fun a2 c2 H10 zs2 q10 => ?_
            simp only [List.set_cons_zero, List.set_cons_succ] at q10
            simp -implicitDefEqProofs only [kz, kk0, kk1, kk2, kk3, ↓two_true, ↓two_false, mkv, aggAt, Nat.reduceLeDiff, Nat.reduceSub, Nat.reduceMul, implies_true, Nat.reduceEqDiff, reduceIte, Nat.reduceAdd, Nat.reduceBEq, reduceCtorEq, al77, ap37_37, bs37_1, fa77_0, fa77_1, fa77_2, fa120_2, ix37, ld3, ld37, ld77, ln37, st3, st37, st77, h0, h1, h4, h5, wi, q10.rd 0 rfl, q10.rd 1 rfl, q10.rd 2 rfl]
            refine st_set q10 2 rfl fun H11 q11 => ?_
            simp only [List.set_cons_zero, List.set_cons_succ] at q11
            simp -implicitDefEqProofs only [kz, kk0, kk1, kk2, kk3, ↓two_true, ↓two_false, mkv, aggAt, Nat.reduceLeDiff, Nat.reduceSub, Nat.reduceMul, implies_true, Nat.reduceEqDiff, reduceIte, Nat.reduceAdd, Nat.reduceBEq, reduceCtorEq, al77, ap37_37, bs37_1, fa77_0, fa77_1, fa77_2, fa120_2, ix37, ld3, ld37, ld77, ln37, st3, st37, st77, h0, h1, h4, h5, wi]
            have q12 := q11.front 5 [2, 3, 4] (by decide) rfl
            simp only [List.filterMap_cons, List.filterMap_nil, List.getElem?_cons_zero, List.getElem?_cons_succ, List.drop_succ_cons, List.drop_zero, List.cons_append, List.nil_append] at q12
            refine ⟨i + 1, by omega, a2, c2, zs2, _, rfl, hlt, q12, ?_⟩
            obtain ⟨f9, g9⟩ := q9.tb 4 rfl
            have hnd := ndL_get (H := H9) (xs := ys) hlt
            rw [g9, ← hex] at hnd
            simp only [List.map_cons, List.map_nil, cv_int, cv_row (f9.row7' hlt hex.symm), ndOf] at hnd
            rw [show m + (i + 1) = m + i + 1 by omega, ndL_snoc hZl rfl, hZ, List.take_add_one, hnd, List.map_append, List.append_assoc]
            congr 2
            simp only [Option.toList_some, List.map_cons, List.map_nil, ndOf]
            unfold shN; rw [if_neg (by simp only; omega), if_neg (by simp only; omega)]
    · have hik : i = k := by have := of_decide_eq_false u; omega
      subst hik
      try simp -implicitDefEqProofs only [kz, kk0, kk1, kk2, kk3, ↓two_true, ↓two_false, mkv, aggAt, Nat.reduceLeDiff, Nat.reduceSub, Nat.reduceMul, implies_true, Nat.reduceEqDiff, reduceIte, Nat.reduceAdd, Nat.reduceBEq, reduceCtorEq, al77, ap37_37, bs37_1, fa77_0, fa77_1, fa77_2, fa120_2, ix37, ld3, ld37, ld77, ln37, st3, st37, st77, h0, h1, h4, h5]
      rw [List.take_of_length_le (by rw [ndL_len]; exact Nat.le_refl _)] at hZ
      exact ⟨a, c, zs, Z, q1, hZ⟩

structure PT (l : List Nd) : Prop where
  ok : l.all ndOk = true
  own : ∃ w, ownG [] l = some w ∧ OwB w ∧ w.length = l.length ∧ gI w ((l.length : Int) - 1) = l.length
  pos : 0 < l.length
theorem ownG_app {l1 l2 : List Nd} : ∀ {acc w : List Int}, ownG acc l1 = some w → ownG acc (l1 ++ l2) = ownG w l2 := by
  induction l1 with
  | nil => intro acc w h; simp only [ownG, Option.some.injEq] at h; subst h; rfl
  | cons x t ih =>
    intro acc w h
    rw [List.cons_append, ownG]
    rw [ownG] at h
    cases hn : nxt acc x with
    | none => rw [hn] at h; cases h
    | some k => rw [hn] at h; exact ih h
theorem gI_app {acc own : List Int} {j : Int} (h : 0 ≤ j ∧ j < own.length) : gI (acc ++ own) ((acc.length : Int) + j) = gI own j := by
  unfold gI
  rw [List.getD_eq_getElem?_getD, List.getD_eq_getElem?_getD, List.getElem?_append_right (by omega)]
  congr 2
  omega
theorem gI_left {acc own : List Int} {j : Int} (h : 0 ≤ j ∧ j < acc.length) : gI (acc ++ own) j = gI acc j := by
  unfold gI
  rw [List.getD_eq_getElem?_getD, List.getD_eq_getElem?_getD, List.getElem?_append_left (by omega)]
theorem nd_kind {x : Nd} (h : ndOk x = true) : x.k = 1 ∨ x.k = 2 ∨ x.k = 3 ∨ x.k = 4 ∨ x.k = 5 := by
  unfold ndOk at h
  simp only [Bool.or_eq_true, Bool.and_eq_true, beq_iff_eq] at h
  omega
theorem ndOk_sh {x : Nd} {n : Nat} (h : ndOk x = true) : ndOk (shN n x) = true := by
  rcases nd_kind h with hk | hk | hk | hk | hk
  · unfold shN; rw [if_neg (by omega), if_neg (by omega)]; exact h
  · unfold shN; rw [if_neg (by omega), if_neg (by omega)]; exact h
  · unfold shN; rw [if_neg (by omega), if_pos (by omega)]
    simp only [ndOk, hk] at h ⊢
    simpa using h
  · unfold shN; rw [if_neg (by omega), if_pos (by omega)]
    simp only [ndOk, hk] at h ⊢
    simpa using h
  · unfold shN; rw [if_pos hk]
    simp only [ndOk, hk] at h ⊢
    simpa using h
theorem nxt_sh {acc own : List Int} {x : Nd} {k : Int} (ho : OwB own) (hk : ndOk x = true) (h1 : acc.length ≤ 1000) (h2 : own.length ≤ 1000) (h : nxt own x = some k) : nxt (acc ++ own) (shN acc.length x) = some k := by
  rcases nd_kind hk with hx | hx | hx | hx | hx
  · have e : shN acc.length x = x := by unfold shN; rw [if_neg (by omega), if_neg (by omega)]
    rw [e]
    unfold nxt at h ⊢
    rw [if_pos (by omega)] at h ⊢
    exact h
  · have e : shN acc.length x = x := by unfold shN; rw [if_neg (by omega), if_neg (by omega)]
    rw [e]
    unfold nxt at h ⊢
    rw [if_pos (by omega)] at h ⊢
    exact h
  · have e : shN acc.length x = ⟨x.k, x.a, IntKind.i64.wrap (x.b + acc.length), x.s, x.o, x.w, x.nums⟩ := by unfold shN; rw [if_neg (by omega), if_pos (by omega)]
    rw [e]
    unfold nxt at h ⊢
    dsimp only
    rw [if_neg (by omega)] at h ⊢
    split at h
    · cases h
    · rename_i hc
      rw [if_pos (by omega)] at h
      have hb : x.b = (own.length : Int) - 1 := by omega
      have w1 : IntKind.i64.wrap (x.b + acc.length) = ((acc ++ own).length : Int) - 1 := by
        rw [IntWalk.i64_in _ (by omega), List.length_append]; omega
      rw [w1, if_neg (by simp only [List.length_append]; omega), if_pos (by omega)]
      rw [show (((acc ++ own).length : Nat) : Int) - 1 = (acc.length : Int) + ((own.length : Int) - 1) by rw [List.length_append]; omega, gI_app (by omega)]
      exact h
  · have e : shN acc.length x = ⟨x.k, x.a, IntKind.i64.wrap (x.b + acc.length), x.s, x.o, x.w, x.nums⟩ := by unfold shN; rw [if_neg (by omega), if_pos (by omega)]
    rw [e]
    unfold nxt at h ⊢
    dsimp only
    rw [if_neg (by omega)] at h ⊢
    split at h
    · cases h
    · rename_i hc
      rw [if_pos (by omega)] at h
      have hb : x.b = (own.length : Int) - 1 := by omega
      have w1 : IntKind.i64.wrap (x.b + acc.length) = ((acc ++ own).length : Int) - 1 := by
        rw [IntWalk.i64_in _ (by omega), List.length_append]; omega
      rw [w1, if_neg (by simp only [List.length_append]; omega), if_pos (by omega)]
      rw [show (((acc ++ own).length : Nat) : Int) - 1 = (acc.length : Int) + ((own.length : Int) - 1) by rw [List.length_append]; omega, gI_app (by omega)]
      exact h
  · have e : shN acc.length x = ⟨x.k, IntKind.i64.wrap (x.a + acc.length), IntKind.i64.wrap (x.b + acc.length), x.s, x.o, x.w, x.nums⟩ := by unfold shN; rw [if_pos hx]
    rw [e]
    unfold nxt at h ⊢
    dsimp only
    rw [if_neg (by omega)] at h ⊢
    split at h
    · cases h
    · rename_i hc
      rw [if_neg (by omega)] at h
      have hl : 0 < own.length := by omega
      have ha : x.a = (own.length : Int) - 1 := by omega
      have g1 := ho.g (i := own.length - 1) (by omega)
      have e1 : (own.length : Int) - 1 = ((own.length - 1 : Nat) : Int) := by omega
      rw [← e1] at g1
      split at h
      · cases h
      · rename_i hd
        have eA : (((acc ++ own).length : Nat) : Int) - 1 = (acc.length : Int) + ((own.length : Int) - 1) := by rw [List.length_append]; omega
        have gA : gI (acc ++ own) ((acc.length : Int) + ((own.length : Int) - 1)) = gI own ((own.length : Int) - 1) := gI_app (by omega)
        generalize hg : gI own ((own.length : Int) - 1) = g at *
        have hb : x.b = (own.length : Int) - 1 - g := by omega
        have wa : IntKind.i64.wrap (x.a + acc.length) = (acc.length : Int) + ((own.length : Int) - 1) := by rw [IntWalk.i64_in _ (by omega)]; omega
        have wb : IntKind.i64.wrap (x.b + acc.length) = (acc.length : Int) + ((own.length : Int) - 1 - g) := by rw [IntWalk.i64_in _ (by omega)]; omega
        simp only [eA, gA, wa, wb]
        rw [if_neg (by simp only [List.length_append]; omega), if_neg (by omega), if_neg (by omega)]
        rw [show (acc.length : Int) + ((own.length : Int) - 1) - g = (acc.length : Int) + ((own.length : Int) - 1 - g) by omega, gI_app (by omega)]
        exact h
theorem ownG_sh {acc : List Int} (h1 : acc.length ≤ 1000) : ∀ {l : List Nd} {own w : List Int}, OwB own → l.all ndOk = true → own.length + l.length ≤ 1000 → ownG own l = some w → ownG (acc ++ own) (l.map (shN acc.length)) = some (acc ++ w)
  | [], own, w, _, _, _, h => by
    simp only [ownG, Option.some.injEq] at h
    subst h; rfl
  | x :: t, own, w, ho, ha, hl, h => by
    simp only [List.all_cons, Bool.and_eq_true] at ha
    simp only [List.length_cons] at hl
    rw [ownG] at h
    rw [List.map_cons, ownG]
    cases hn : nxt own x with
    | none => rw [hn] at h; cases h
    | some k =>
      rw [hn] at h
      rw [nxt_sh ho ha.1 h1 (by omega) hn]
      simp only at h ⊢
      rw [List.append_assoc]
      exact ownG_sh h1 (ho.nxt hn) ha.2 (by simp; omega) h
theorem gI_snoc {w : List Int} {k : Int} {n : Nat} (h : w.length = n) : gI (w ++ [k]) (((n + 1 : Nat) : Int) - 1) = k := by
  have := gI_app (acc := w) (own := [k]) (j := 0) (by simp)
  rw [show ((n + 1 : Nat) : Int) - 1 = (w.length : Int) + 0 by omega, this]
  rfl
theorem PT.leaf {x : Nd} (h : ndOk x = true) (hk : x.k < 3) : PT [x] := by
  refine ⟨by simp [h], ⟨[1], ?_, ?_, rfl, rfl⟩, by simp⟩
  · have : nxt [] x = some 1 := by unfold nxt; rw [if_pos hk]
    simp only [ownG, this, List.nil_append]
  · exact OwB.nil.snoc (by omega) (by simp)
theorem PT.un {l : List Nd} {x : Nd} (t : PT l) (h : ndOk x = true) (hk : x.k = 3 ∨ x.k = 4) (hb : x.b = (l.length : Int) - 1) : PT (l ++ [x]) := by
  obtain ⟨a1, ⟨w, e1, e2, e3, e4⟩, a3⟩ := t
  have hn : nxt w x = some (1 + (l.length : Int)) := by
    unfold nxt
    rw [if_neg (by omega), if_neg (by omega), if_pos (by omega), e3, e4]
  refine ⟨by simp [a1, h], ⟨w ++ [1 + (l.length : Int)], ?_, e2.nxt hn, by simp [e3], ?_⟩, by simp⟩
  · rw [ownG_app e1, ownG, hn]; rfl
  · rw [List.length_append]
    have := gI_snoc (w := w) (k := 1 + (l.length : Int)) e3
    simp only [List.length_cons, List.length_nil]
    rw [this]
    omega
theorem PT.bin {r l : List Nd} {x : Nd} (tr : PT r) (tl : PT l) (h : ndOk x = true) (hk : x.k = 5) (ha : x.a = (r.length : Int) + l.length - 1) (hb : x.b = (r.length : Int) - 1) (hn : r.length ≤ 500) (hm : l.length ≤ 500) : PT (r ++ l.map (shN r.length) ++ [x]) := by
  obtain ⟨a1, ⟨w, e1, e2, e3, e4⟩, a3⟩ := tr
  obtain ⟨b1, ⟨v, f1, f2, f3, f4⟩, b3⟩ := tl
  have hs := ownG_sh (acc := w) (by omega) (own := []) OwB.nil b1 (by simp; omega) f1
  rw [List.append_nil, e3] at hs
  have hw : OwB (w ++ v) := by
    intro j y hy
    rcases Nat.lt_or_ge j w.length with hj | hj
    · rw [List.getElem?_append_left hj] at hy; exact e2 j y hy
    · rw [List.getElem?_append_right hj] at hy
      have := f2 _ y hy
      omega
  have g1 : gI (w ++ v) (((w ++ v).length : Int) - 1) = l.length := by
    have := gI_app (acc := w) (own := v) (j := (v.length : Int) - 1) (by omega)
    rw [show ((w ++ v).length : Int) - 1 = (w.length : Int) + ((v.length : Int) - 1) by rw [List.length_append]; omega, this, f3, f4]
  have g2 : gI (w ++ v) ((r.length : Int) - 1) = r.length := by
    rw [gI_left (by omega), e4]
  have hlen : ((w ++ v).length : Int) = (r.length : Int) + l.length := by rw [List.length_append]; omega
  have hN : nxt (w ++ v) x = some (1 + (l.length : Int) + r.length) := by
    unfold nxt
    rw [if_neg (by omega), if_neg (by omega), if_neg (by omega), g1]
    have e5 : ((w ++ v).length : Int) - 1 - (l.length : Int) = (r.length : Int) - 1 := by omega
    rw [e5, if_neg (by omega), g2]
  refine ⟨?_, ⟨w ++ v ++ [1 + (l.length : Int) + r.length], ?_, hw.nxt hN, by simp [e3, f3]; try omega, ?_⟩, by simp; omega⟩
  · rw [List.all_append, List.all_append, a1, List.all_map]
    simp only [Bool.true_and, List.all_cons, List.all_nil, Bool.and_true, h]
    rw [List.all_eq_true] at b1 ⊢
    intro y hy
    exact ndOk_sh (b1 y hy)
  · rw [List.append_assoc, ownG_app e1, ownG_app hs, ownG, hN]; rfl
  · have hl2 : (r ++ l.map (shN r.length) ++ [x]).length = r.length + l.length + 1 := by simp; omega
    rw [hl2, gI_snoc (by rw [List.length_append]; omega)]
    omega
theorem PT.tr {l : List Nd} (h : PT l) (hl : l.length ≤ 60) : trOk l = true := by
  obtain ⟨a1, ⟨w, e1, e2, e3, e4⟩, a3⟩ := h
  unfold trOk
  rw [a1, e1]
  simp only [e4, beq_self_eq_true, Bool.and_true, Bool.and_self]
  simp [inB]; omega

/-- What l9Line and l9Operand leave. -/
def LineR (c0 : Option Nat) (H0 : AH) (L : List Ix) (cb : Nat) (ta : Option Addr) (tc nt at' : Nat) (ts : List Value) (toks : List (Int × Int)) (r : Value) (H' : AH) : Prop :=
  ∃ (ok : Bool) (a2 : Nat) (na : Option Addr) (nc m : Nat) (xs : List Value) (V : List CV), r = .bool ok ∧ LX c0 H0 H' (.own (.box cb [.slice ta nt tc, .int .i64 (a2 : Nat), .slice na m nc]) :: .tab (.slice na m nc) kExpr m xs V :: .ftab (.slice ta nt tc) kToken nt ts (tokV toks) :: L) ∧ at' ≤ a2 ∧ a2 ≤ nt ∧ (ok = true → m ≤ a2 - at' ∧ at' < a2 ∧ PT (ndL V m))
def LineC (P : Program) (f N : Nat) : Prop := ∀ {c0 : Option Nat} {H0 H : AH} {L : List Ix} {cb : Nat} {ta : Option Addr} {tc nt at' : Nat} {ts : List Value} {toks : List (Int × Int)}, LX c0 H0 H (.own (.box cb [.slice ta nt tc, .int .i64 (at' : Nat), .slice none 0 0]) :: .ftab (.slice ta nt tc) kToken nt ts (tokV toks) :: L) → toks.length = nt → nt ≤ 300 → at' ≤ nt → nt - at' < N → (toks.all fun t => tokOk t.1 t.2) = true →
  CallsA P f #[.pointer (some ⟨cb, 0, none⟩)] H (LineR c0 H0 L cb ta tc nt at' ts toks)
theorem froRow {B : Nat → Prop} {H : AH} {p : Value} {l : List Int} (h : (Ix.fro p l).ok B H) (hl : l.length < 1073741825) : KOk H .r p ∧ rowI H p = l ∧ ∀ g, blkOf p = some g → B g :=
  ⟨⟨h.1.ok, by rw [h.1.row]; exact hl⟩, h.1.row, h.2⟩
theorem ndL_one {C : List CV} (hC : C.length = 7) : ndL C 1 = [ndOf C] := by
  have h := ndL_snoc (V := []) (n := 0) (C := C) rfl hC
  rw [List.nil_append] at h
  exact h

theorem tok_at2 {H : AH} {b o nt : Nat} {ts : List Value} {toks : List (Int × Int)} (f : FRow H (.slice (some ⟨b, o, none⟩) nt 2) kToken nt ts ∧ cvs H ts = tokV toks) (hl : toks.length = nt) {i : Nat} (hi : i < nt) :
    ∃ cs, rd H b = some cs ∧ cs[o + i * 2]? = some (.int .i64 (tkK toks i)) ∧ cs[o + i * 2 + 1]? = some (.int .i64 (tkV toks i)) := by
  obtain ⟨b', o', cs, e, -, h1, h2, h3⟩ := tok_at f.1 f.2 hl hi
  simp only [Option.some.injEq, Addr.mk.injEq] at e
  obtain ⟨rfl, rfl, -⟩ := e
  exact ⟨cs, h1, h2, h3⟩

set_option maxHeartbeats 4000000 in
theorem l9Operand_step {N : Nat} (ih : LineC Try.prog 107 N) : LineC Try.prog 112 (N + 1) := by
  intro cc H0 H L cb ta tc nt at' ts toks q hl h3 h4 hN hT
  have t0 := q.tc 0 1 rfl rfl rfl hl h3 h4
  have k0 : ∀ Φ, CallsA Try.prog 110 #[.pointer (some ⟨cb, 0, none⟩), .int .i64 0] H Φ = Φ (.int .i64 (tkK toks at')) H := fun Φ => l9Kind_eq (k := 0) t0 (by decide)
  refine w112 ?_
  unfold k112
  simp -implicitDefEqProofs only [kz, kk0, kk1, kk2, kk3, ↓two_true, ↓two_false, mkv, aggAt, Nat.reduceLeDiff, Nat.reduceSub, Nat.reduceMul, implies_true, Nat.reduceEqDiff, reduceIte, Nat.reduceAdd, Nat.reduceBEq, reduceCtorEq, al77, ap37_37, ap64_64, bd77, bs37_1, bs64_1, fa54_1, fa77_4, fa120_0, fa120_1, fa120_2, ix25, ld3, ld25, ld37, ld64, ld77, st3, st37, st64, st77, k0]
  have q0 := (q.ntab kExpr).front 3 [1, 0, 2] (by decide) rfl
  simp only [List.filterMap_cons, List.filterMap_nil, List.getElem?_cons_zero, List.getElem?_cons_succ, List.drop_succ_cons, List.drop_zero, List.cons_append, List.nil_append] at q0
  refine two_intro (fun u1 => ?_) (fun u1 => two_intro (fun u2 => ?_) (fun u2 => two_intro (fun u4 => ?_) (fun u4 => ?_)))
  · have e1 : tkK toks at' = 1 := by simpa using u1
    refine st_box q0 fun H1 q1 => ?_
    simp -implicitDefEqProofs only [kz, kk0, kk1, kk2, kk3, ↓two_true, ↓two_false, mkv, aggAt, Nat.reduceLeDiff, Nat.reduceSub, Nat.reduceMul, implies_true, Nat.reduceEqDiff, reduceIte, Nat.reduceAdd, Nat.reduceBEq, reduceCtorEq, al77, ap37_37, ap64_64, bd77, bs37_1, bs64_1, fa54_1, fa77_4, fa120_0, fa120_1, fa120_2, ix25, ld3, ld25, ld37, ld64, ld77, st3, st37, st64, st77, q1.rd 0 rfl]
    refine st_set q1 0 rfl fun H2 q2 => ?_
    simp only [List.set_cons_zero, List.set_cons_succ] at q2
    simp -implicitDefEqProofs only [kz, kk0, kk1, kk2, kk3, ↓two_true, ↓two_false, mkv, aggAt, Nat.reduceLeDiff, Nat.reduceSub, Nat.reduceMul, implies_true, Nat.reduceEqDiff, reduceIte, Nat.reduceAdd, Nat.reduceBEq, reduceCtorEq, al77, ap37_37, ap64_64, bd77, bs37_1, bs64_1, fa54_1, fa77_4, fa120_0, fa120_1, fa120_2, ix25, ld3, ld25, ld37, ld64, ld77, st3, st37, st64, st77, q2.rd 0 rfl]
    have q3 := q2.nil0
    refine rW_loop (σ := Nat) (fun j tm H' => ∃ pa pc nums, tm 0 = .pointer (some ⟨cb, 0, none⟩) ∧ tm 3 = .pointer (some ⟨H.length, 0, none⟩) ∧ LX cc H0 H' (.own (.row (.slice pa nums.length pc) nums) :: .own (.box H.length [.int .i64 1, .int .i64 0, .int .i64 0, .int .i64 0, .int .i64 0, .int .i64 0, .slice pa nums.length pc]) :: .own (.box cb [.slice ta nt tc, .int .i64 ((at' + j : Nat) : Int), .slice none 0 0]) :: .tab (.slice none 0 0) kExpr 0 [] [] :: .ftab (.slice ta nt tc) kToken nt ts (tokV toks) :: L) ∧ nums.length = j ∧ at' + j ≤ nt ∧ nums.all numOk = true) (fun j => nt - at' - j) 0 ?_ ?_
    · exact ⟨none, 0, [], rfl, rfl, q3, rfl, h4, rfl⟩
    · rintro j tm H4 ⟨pa, pc, nums, m0, m3, q4, hj, hjn, hno⟩
      have t4 := q4.tc 2 4 rfl rfl rfl hl h3 hjn
      have k4 : ∀ Φ, CallsA Try.prog 110 #[.pointer (some ⟨cb, 0, none⟩), .int .i64 0] H4 Φ = Φ (.int .i64 (tkK toks (at' + j))) H4 := fun Φ => l9Kind_eq (k := 0) t4 (by decide)
      simp -implicitDefEqProofs only [kz, kk0, kk1, kk2, kk3, ↓two_true, ↓two_false, mkv, aggAt, Nat.reduceLeDiff, Nat.reduceSub, Nat.reduceMul, implies_true, Nat.reduceEqDiff, reduceIte, Nat.reduceAdd, Nat.reduceBEq, reduceCtorEq, al77, ap37_37, ap64_64, bd77, bs37_1, bs64_1, fa54_1, fa77_4, fa120_0, fa120_1, fa120_2, ix25, ld3, ld25, ld37, ld64, ld77, st3, st37, st64, st77, k4, m0, m3]
      refine two_intro (fun v => ?_) (fun v => ?_)
      · have f1 : tkK toks (at' + j) = 1 := by simpa using v
        have hin : at' + j < nt := by have := tkK_in (l := toks) (i := at' + j) (by omega); omega
        have hv := tok_all hT (i := at' + j) (by omega)
        have hnv : numOk (tkV toks (at' + j)) = true := by
          rw [f1] at hv
          simpa [tokOk] using hv
        obtain ⟨f, g⟩ := q4.ft 4 rfl
        obtain ⟨b, o, cs, rfl, rfl, hrd, c0, c1⟩ := tok_at f g hl hin
        have g1 : (0 : Int) ≤ ((at' + j : Nat) : Int) ∧ ((at' + j : Nat) : Int) < (nt : Int) := by omega
        have w1 : IntKind.i64.wrap (((at' + j : Nat) : Int) + 1) = ((at' + (j + 1) : Nat) : Int) := by rw [IntWalk.i64_in _ (by omega)]; omega
        simp -implicitDefEqProofs only [kz, kk0, kk1, kk2, kk3, ↓two_true, ↓two_false, mkv, aggAt, Nat.reduceLeDiff, Nat.reduceSub, Nat.reduceMul, implies_true, Nat.reduceEqDiff, reduceIte, Nat.reduceAdd, Nat.reduceBEq, reduceCtorEq, al77, ap37_37, ap64_64, bd77, bs37_1, bs64_1, fa54_1, fa77_4, fa120_0, fa120_1, fa120_2, ix25, ld3, ld25, ld37, ld64, ld77, st3, st37, st64, st77, m0, m3, q4.rd 1 rfl, q4.rd 2 rfl, if_pos g1, Int.toNat_natCast, hrd, c1, w1]
        refine st_lit [tkV toks (at' + j)] rfl rfl q4 fun H5 q5 => ?_
        obtain ⟨cs5, hrd5, -, d5⟩ := tok_at2 (q5.ft 5 rfl) hl hin
        simp -implicitDefEqProofs only [kz, kk0, kk1, kk2, kk3, ↓two_true, ↓two_false, mkv, aggAt, Nat.reduceLeDiff, Nat.reduceSub, Nat.reduceMul, implies_true, Nat.reduceEqDiff, reduceIte, Nat.reduceAdd, Nat.reduceBEq, reduceCtorEq, al77, ap37_37, ap64_64, bd77, bs37_1, bs64_1, fa54_1, fa77_4, fa120_0, fa120_1, fa120_2, ix25, ld3, ld25, ld37, ld64, ld77, st3, st37, st64, st77, m0, m3, q5.rd 2 rfl, q5.rd 3 rfl, w1]
        refine st_app q5 1 rfl (q5.int 0 rfl) (by simp; omega) fun a2 c2 H6 q6 => ?_
        simp only [List.set_cons_zero, List.set_cons_succ] at q6
        simp only [List.length_cons, List.length_nil, Nat.zero_add] at q6 ⊢
        obtain ⟨cs6, hrd6, -, d6⟩ := tok_at2 (q6.ft 5 rfl) hl hin
        simp -implicitDefEqProofs only [kz, kk0, kk1, kk2, kk3, ↓two_true, ↓two_false, mkv, aggAt, Nat.reduceLeDiff, Nat.reduceSub, Nat.reduceMul, implies_true, Nat.reduceEqDiff, reduceIte, Nat.reduceAdd, Nat.reduceBEq, reduceCtorEq, al77, ap37_37, ap64_64, bd77, bs37_1, bs64_1, fa54_1, fa77_4, fa120_0, fa120_1, fa120_2, ix25, ld3, ld25, ld37, ld64, ld77, st3, st37, st64, st77, m0, m3, q6.rd 2 rfl, q6.rd 3 rfl, if_pos g1, Int.toNat_natCast, hrd6, d6, w1]
        refine st_set q6 2 rfl fun H7 q7 => ?_
        simp only [List.set_cons_zero, List.set_cons_succ] at q7
        simp -implicitDefEqProofs only [kz, kk0, kk1, kk2, kk3, ↓two_true, ↓two_false, mkv, aggAt, Nat.reduceLeDiff, Nat.reduceSub, Nat.reduceMul, implies_true, Nat.reduceEqDiff, reduceIte, Nat.reduceAdd, Nat.reduceBEq, reduceCtorEq, al77, ap37_37, ap64_64, bd77, bs37_1, bs64_1, fa54_1, fa77_4, fa120_0, fa120_1, fa120_2, ix25, ld3, ld25, ld37, ld64, ld77, st3, st37, st64, st77, m0, m3, q7.rd 2 rfl, q7.rd 3 rfl, w1]
        refine st_set q7 3 rfl fun H8 q8 => ?_
        simp only [List.set_cons_zero, List.set_cons_succ] at q8
        simp -implicitDefEqProofs only [kz, kk0, kk1, kk2, kk3, ↓two_true, ↓two_false, mkv, aggAt, Nat.reduceLeDiff, Nat.reduceSub, Nat.reduceMul, implies_true, Nat.reduceEqDiff, reduceIte, Nat.reduceAdd, Nat.reduceBEq, reduceCtorEq, al77, ap37_37, ap64_64, bd77, bs37_1, bs64_1, fa54_1, fa77_4, fa120_0, fa120_1, fa120_2, ix25, ld3, ld25, ld37, ld64, ld77, st3, st37, st64, st77, m0, m3, w1]
        have q9 := q8.front 6 [1, 2, 3, 4, 5] (by decide) rfl
        simp only [List.filterMap_cons, List.filterMap_nil, List.getElem?_cons_zero, List.getElem?_cons_succ, List.drop_succ_cons, List.drop_zero, List.cons_append, List.nil_append] at q9
        have hlen1 : (nums ++ [tkV toks (at' + j)]).length = nums.length + 1 := by simp
        refine ⟨j + 1, by omega, a2, c2, nums ++ [tkV toks (at' + j)], by rw [hlen1]; exact q9, by rw [hlen1]; omega, by omega, by rw [List.all_append, hno]; simp [hnv]⟩
      · have f1 : tkK toks (at' + j) ≠ 1 := by simpa using v
        have hj0 : j ≠ 0 := by rintro rfl; exact f1 e1
        try simp -implicitDefEqProofs only [kz, kk0, kk1, kk2, kk3, ↓two_true, ↓two_false, mkv, aggAt, Nat.reduceLeDiff, Nat.reduceSub, Nat.reduceMul, implies_true, Nat.reduceEqDiff, reduceIte, Nat.reduceAdd, Nat.reduceBEq, reduceCtorEq, al77, ap37_37, ap64_64, bd77, bs37_1, bs64_1, fa54_1, fa77_4, fa120_0, fa120_1, fa120_2, ix25, ld3, ld25, ld37, ld64, ld77, st3, st37, st64, st77, m0, m3]
        have q5 := q4.fzr 0 rfl
        simp only [List.set_cons_zero, List.set_cons_succ] at q5
        simp -implicitDefEqProofs only [kz, kk0, kk1, kk2, kk3, ↓two_true, ↓two_false, mkv, aggAt, Nat.reduceLeDiff, Nat.reduceSub, Nat.reduceMul, implies_true, Nat.reduceEqDiff, reduceIte, Nat.reduceAdd, Nat.reduceBEq, reduceCtorEq, al77, ap37_37, ap64_64, bd77, bs37_1, bs64_1, fa54_1, fa77_4, fa120_0, fa120_1, fa120_2, ix25, ld3, ld25, ld37, ld64, ld77, st3, st37, st64, st77, m0, m3, q5.rd 1 rfl, q5.rd 2 rfl]
        refine st_cells q5 fun H6 q6 => ?_
        simp -implicitDefEqProofs only [kz, kk0, kk1, kk2, kk3, ↓two_true, ↓two_false, mkv, aggAt, Nat.reduceLeDiff, Nat.reduceSub, Nat.reduceMul, implies_true, Nat.reduceEqDiff, reduceIte, Nat.reduceAdd, Nat.reduceBEq, reduceCtorEq, al77, ap37_37, ap64_64, bd77, bs37_1, bs64_1, fa54_1, fa77_4, fa120_0, fa120_1, fa120_2, ix25, ld3, ld25, ld37, ld64, ld77, st3, st37, st64, st77, m0, m3, q6.rd 0 rfl, q6.rd 2 rfl, q6.rd 3 rfl]
        refine st_app7 q6 4 0 rfl rfl (fun B h => froRow (h.ok 1 _ rfl) (by omega)) (by decide) fun a2 c2 H7 ys q7 => ?_
        simp only [List.set_cons_zero, List.set_cons_succ] at q7
        simp -implicitDefEqProofs only [kz, kk0, kk1, kk2, kk3, ↓two_true, ↓two_false, mkv, aggAt, Nat.reduceLeDiff, Nat.reduceSub, Nat.reduceMul, implies_true, Nat.reduceEqDiff, reduceIte, Nat.reduceAdd, Nat.reduceBEq, reduceCtorEq, al77, ap37_37, ap64_64, bd77, bs37_1, bs64_1, fa54_1, fa77_4, fa120_0, fa120_1, fa120_2, ix25, ld3, ld25, ld37, ld64, ld77, st3, st37, st64, st77, m0, m3, q7.rd 2 rfl, q7.rd 3 rfl]
        refine st_set q7 3 rfl fun H8 q8 => ?_
        simp only [List.set_cons_zero, List.set_cons_succ] at q8
        simp -implicitDefEqProofs only [kz, kk0, kk1, kk2, kk3, ↓two_true, ↓two_false, mkv, aggAt, Nat.reduceLeDiff, Nat.reduceSub, Nat.reduceMul, implies_true, Nat.reduceEqDiff, reduceIte, Nat.reduceAdd, Nat.reduceBEq, reduceCtorEq, al77, ap37_37, ap64_64, bd77, bs37_1, bs64_1, fa54_1, fa77_4, fa120_0, fa120_1, fa120_2, ix25, ld3, ld25, ld37, ld64, ld77, st3, st37, st64, st77, m0, m3, q8.rd 3 rfl]
        have q9 := q8.front 6 [3, 4, 5] (by decide) rfl
        simp only [List.filterMap_cons, List.filterMap_nil, List.getElem?_cons_zero, List.getElem?_cons_succ, List.drop_succ_cons, List.drop_zero, List.cons_append, List.nil_append] at q9
        refine ⟨true, at' + j, a2, c2, 1, ys, _, rfl, q9, by omega, hjn, fun _ => ⟨by omega, by omega, ?_⟩⟩
        rw [ndL_one rfl]
        refine PT.leaf ?_ (show (1 : Int) < 3 by decide)
        have : numsOk nums = true := by
          unfold numsOk
          rw [hno, Bool.and_true]
          simp [inB]; omega
        simp [ndOf, ndOk, this]
  · have e2 : tkK toks at' = 2 := by simpa using u2
    have hin : at' < nt := by have := tkK_in (l := toks) (i := at') (by omega); omega
    have hv := tok_all hT (i := at') (by omega)
    have hnv : inB (tkV toks at') 0 25 = true := by
      rw [e2] at hv
      simpa [tokOk] using hv
    obtain ⟨f, g⟩ := q0.ft 2 rfl
    obtain ⟨b, o, cs, rfl, rfl, hrd, c0, c1⟩ := tok_at f g hl hin
    have g1 : (0 : Int) ≤ (at' : Int) ∧ (at' : Int) < (nt : Int) := by omega
    have w1 : IntKind.i64.wrap ((at' : Int) + 1) = ((at' + 1 : Nat) : Int) := by rw [IntWalk.i64_in _ (by omega)]; omega
    simp -implicitDefEqProofs only [kz, kk0, kk1, kk2, kk3, ↓two_true, ↓two_false, mkv, aggAt, Nat.reduceLeDiff, Nat.reduceSub, Nat.reduceMul, implies_true, Nat.reduceEqDiff, reduceIte, Nat.reduceAdd, Nat.reduceBEq, reduceCtorEq, al77, ap37_37, ap64_64, bd77, bs37_1, bs64_1, fa54_1, fa77_4, fa120_0, fa120_1, fa120_2, ix25, ld3, ld25, ld37, ld64, ld77, st3, st37, st64, st77, q0.rd 0 rfl, if_pos g1, Int.toNat_natCast, hrd, c1, w1]
    refine st_cells q0 fun H6 q6 => ?_
    simp -implicitDefEqProofs only [kz, kk0, kk1, kk2, kk3, ↓two_true, ↓two_false, mkv, aggAt, Nat.reduceLeDiff, Nat.reduceSub, Nat.reduceMul, implies_true, Nat.reduceEqDiff, reduceIte, Nat.reduceAdd, Nat.reduceBEq, reduceCtorEq, al77, ap37_37, ap64_64, bd77, bs37_1, bs64_1, fa54_1, fa77_4, fa120_0, fa120_1, fa120_2, ix25, ld3, ld25, ld37, ld64, ld77, st3, st37, st64, st77, q6.rd 0 rfl, q6.rd 1 rfl, w1]
    refine st_app7 q6 2 0 rfl rfl (fun B h => nilRow) (by decide) fun a2 c2 H7 ys q7 => ?_
    simp only [List.set_cons_zero, List.set_cons_succ] at q7
    obtain ⟨cs7, hrd7, -, d7⟩ := tok_at2 (q7.ft 3 rfl) hl hin
    simp -implicitDefEqProofs only [kz, kk0, kk1, kk2, kk3, ↓two_true, ↓two_false, mkv, aggAt, Nat.reduceLeDiff, Nat.reduceSub, Nat.reduceMul, implies_true, Nat.reduceEqDiff, reduceIte, Nat.reduceAdd, Nat.reduceBEq, reduceCtorEq, al77, ap37_37, ap64_64, bd77, bs37_1, bs64_1, fa54_1, fa77_4, fa120_0, fa120_1, fa120_2, ix25, ld3, ld25, ld37, ld64, ld77, st3, st37, st64, st77, q7.rd 1 rfl, if_pos g1, Int.toNat_natCast, hrd7, d7, w1]
    refine st_set q7 1 rfl fun H8 q8 => ?_
    simp only [List.set_cons_zero, List.set_cons_succ] at q8
    simp -implicitDefEqProofs only [kz, kk0, kk1, kk2, kk3, ↓two_true, ↓two_false, mkv, aggAt, Nat.reduceLeDiff, Nat.reduceSub, Nat.reduceMul, implies_true, Nat.reduceEqDiff, reduceIte, Nat.reduceAdd, Nat.reduceBEq, reduceCtorEq, al77, ap37_37, ap64_64, bd77, bs37_1, bs64_1, fa54_1, fa77_4, fa120_0, fa120_1, fa120_2, ix25, ld3, ld25, ld37, ld64, ld77, st3, st37, st64, st77, q8.rd 1 rfl, w1]
    refine st_set q8 1 rfl fun H9 q9 => ?_
    simp only [List.set_cons_zero, List.set_cons_succ] at q9
    simp -implicitDefEqProofs only [kz, kk0, kk1, kk2, kk3, ↓two_true, ↓two_false, mkv, aggAt, Nat.reduceLeDiff, Nat.reduceSub, Nat.reduceMul, implies_true, Nat.reduceEqDiff, reduceIte, Nat.reduceAdd, Nat.reduceBEq, reduceCtorEq, al77, ap37_37, ap64_64, bd77, bs37_1, bs64_1, fa54_1, fa77_4, fa120_0, fa120_1, fa120_2, ix25, ld3, ld25, ld37, ld64, ld77, st3, st37, st64, st77, q9.rd 1 rfl, w1]
    have qa := q9.front 4 [1, 2, 3] (by decide) rfl
    simp only [List.filterMap_cons, List.filterMap_nil, List.getElem?_cons_zero, List.getElem?_cons_succ, List.drop_succ_cons, List.drop_zero, List.cons_append, List.nil_append] at qa
    refine ⟨true, at' + 1, a2, c2, 1, ys, _, rfl, qa, by omega, hin, fun _ => ⟨by omega, by omega, ?_⟩⟩
    rw [ndL_one rfl]
    refine PT.leaf ?_ (show (2 : Int) < 3 by decide)
    simp [ndOf, ndOk, hnv]
  · have e4 : tkK toks at' = 4 := by simpa using u4
    have hin : at' < nt := by have := tkK_in (l := toks) (i := at') (by omega); omega
    have w1 : IntKind.i64.wrap ((at' : Int) + 1) = ((at' + 1 : Nat) : Int) := by rw [IntWalk.i64_in _ (by omega)]; omega
    simp -implicitDefEqProofs only [kz, kk0, kk1, kk2, kk3, ↓two_true, ↓two_false, mkv, aggAt, Nat.reduceLeDiff, Nat.reduceSub, Nat.reduceMul, implies_true, Nat.reduceEqDiff, reduceIte, Nat.reduceAdd, Nat.reduceBEq, reduceCtorEq, al77, ap37_37, ap64_64, bd77, bs37_1, bs64_1, fa54_1, fa77_4, fa120_0, fa120_1, fa120_2, ix25, ld3, ld25, ld37, ld64, ld77, st3, st37, st64, st77, q.rd 0 rfl, w1]
    refine st_set q 0 rfl fun H1 q1 => ?_
    simp only [List.set_cons_zero, List.set_cons_succ] at q1
    simp -implicitDefEqProofs only [kz, kk0, kk1, kk2, kk3, ↓two_true, ↓two_false, mkv, aggAt, Nat.reduceLeDiff, Nat.reduceSub, Nat.reduceMul, implies_true, Nat.reduceEqDiff, reduceIte, Nat.reduceAdd, Nat.reduceBEq, reduceCtorEq, al77, ap37_37, ap64_64, bd77, bs37_1, bs64_1, fa54_1, fa77_4, fa120_0, fa120_1, fa120_2, ix25, ld3, ld25, ld37, ld64, ld77, st3, st37, st64, st77, q1.rd 0 rfl, w1]
    refine (ih q1 hl h3 hin (by omega) hT).mono ?_
    rintro _ H2 ⟨ok, a2, na, nc, m, xs, V, rfl, q2, l1, l2, l3⟩
    cases ok with
    | false =>
      simp -implicitDefEqProofs only [kz, kk0, kk1, kk2, kk3, ↓two_true, ↓two_false, mkv, aggAt, Nat.reduceLeDiff, Nat.reduceSub, Nat.reduceMul, implies_true, Nat.reduceEqDiff, reduceIte, Nat.reduceAdd, Nat.reduceBEq, reduceCtorEq, al77, ap37_37, ap64_64, bd77, bs37_1, bs64_1, fa54_1, fa77_4, fa120_0, fa120_1, fa120_2, ix25, ld3, ld25, ld37, ld64, ld77, st3, st37, st64, st77, q2.rd 0 rfl, Bool.not_false]
      exact ⟨false, a2, na, nc, m, xs, V, rfl, q2, by omega, l2, fun h => by cases h⟩
    | true =>
      obtain ⟨l4, l5, l6⟩ := l3 rfl
      have t2 := q2.tc 0 2 rfl rfl rfl hl h3 l2
      have k2 : ∀ Φ, CallsA Try.prog 110 #[.pointer (some ⟨cb, 0, none⟩), .int .i64 0] H2 Φ = Φ (.int .i64 (tkK toks a2)) H2 := fun Φ => l9Kind_eq (k := 0) t2 (by decide)
      have w2 : IntKind.i64.wrap ((a2 : Int) + 1) = ((a2 + 1 : Nat) : Int) := by rw [IntWalk.i64_in _ (by omega)]; omega
      simp -implicitDefEqProofs only [kz, kk0, kk1, kk2, kk3, ↓two_true, ↓two_false, mkv, aggAt, Nat.reduceLeDiff, Nat.reduceSub, Nat.reduceMul, implies_true, Nat.reduceEqDiff, reduceIte, Nat.reduceAdd, Nat.reduceBEq, reduceCtorEq, al77, ap37_37, ap64_64, bd77, bs37_1, bs64_1, fa54_1, fa77_4, fa120_0, fa120_1, fa120_2, ix25, ld3, ld25, ld37, ld64, ld77, st3, st37, st64, st77, q2.rd 0 rfl, k2, w2, Bool.not_true]
      refine two_intro (fun v => ?_) (fun v => ?_)
      · exact ⟨false, a2, na, nc, m, xs, V, rfl, q2, by omega, l2, fun h => by cases h⟩
      · have f5 : tkK toks a2 = 5 := by simpa using v
        have hin2 : a2 < nt := by have := tkK_in (l := toks) (i := a2) (by omega); omega
        try simp -implicitDefEqProofs only [kz, kk0, kk1, kk2, kk3, ↓two_true, ↓two_false, mkv, aggAt, Nat.reduceLeDiff, Nat.reduceSub, Nat.reduceMul, implies_true, Nat.reduceEqDiff, reduceIte, Nat.reduceAdd, Nat.reduceBEq, reduceCtorEq, al77, ap37_37, ap64_64, bd77, bs37_1, bs64_1, fa54_1, fa77_4, fa120_0, fa120_1, fa120_2, ix25, ld3, ld25, ld37, ld64, ld77, st3, st37, st64, st77, q2.rd 0 rfl, w2]
        refine st_set q2 0 rfl fun H3 q3 => ?_
        simp only [List.set_cons_zero, List.set_cons_succ] at q3
        simp -implicitDefEqProofs only [kz, kk0, kk1, kk2, kk3, ↓two_true, ↓two_false, mkv, aggAt, Nat.reduceLeDiff, Nat.reduceSub, Nat.reduceMul, implies_true, Nat.reduceEqDiff, reduceIte, Nat.reduceAdd, Nat.reduceBEq, reduceCtorEq, al77, ap37_37, ap64_64, bd77, bs37_1, bs64_1, fa54_1, fa77_4, fa120_0, fa120_1, fa120_2, ix25, ld3, ld25, ld37, ld64, ld77, st3, st37, st64, st77, q3.rd 0 rfl]
        exact ⟨true, a2 + 1, na, nc, m, xs, V, rfl, q3, by omega, hin2, fun _ => ⟨by omega, by omega, l6⟩⟩
  · exact ⟨false, at', none, 0, 0, [], [], rfl, q0, Nat.le_refl _, h4, fun h => by cases h⟩

theorem PT.sh0 {l : List Nd} (h : PT l) (hl : l.length ≤ 1000) : PT (l.map (shN 0)) := by
  obtain ⟨a1, ⟨w, e1, e2, e3, e4⟩, a3⟩ := h
  have hs := ownG_sh (acc := []) (by simp) (own := []) OwB.nil a1 (by simpa using hl) e1
  refine ⟨?_, ⟨w, hs, e2, by simp [e3], by rw [List.length_map]; exact e4⟩, by simpa using a3⟩
  rw [List.all_map, List.all_eq_true]
  rw [List.all_eq_true] at a1
  intro y hy
  exact ndOk_sh (a1 y hy)
theorem LX.tlen {c : Option Nat} {H0 H : AH} {L : List Ix} {v : Value} {n : Nat} {xs : List Value} {V : List CV} (q : LX c H0 H L) (i : Nat) (hi : L[i]? = some (.tab v kExpr n xs V)) : V.length = n * 7 := by
  obtain ⟨e1, e2⟩ := q.tb i hi
  rw [← e2]
  have := e1.len
  simp only [cvs, List.length_map]
  exact this

end Go.Proofs.Ytdagncfnkenbfaa.AM
