/- What the functions answer, part 2. -/
import Derived.Test.YtgekbancaeabgaaP1
set_option linter.unusedVariables false
set_option linter.unusedSimpArgs false
set_option linter.defProp false
set_option maxRecDepth 100000
/- What the functions answer, part 2. -/
namespace Go.Proofs.Ytgekbancaeabgaa.AM
open Go Go.Proofs.Ytgekbancaeabgaa Go.Proofs
set_option maxHeartbeats 4000000 in
theorem specLex_ok {s : ByteArray} (hs : s.size ≤ 1048576) {H : AH} : CallsA Try.prog 24 #[.string s] H fun r H' => (∃ a c ys, r = .tuple #[.slice a (lexA s).1.length c, .int .i64 (lexA s).2.1, .int .i64 ((lexA s).2.2 : Nat)] ∧ New H H' (.slice a (lexA s).1.length c) kToken (lexA s).1.length ys ∧ cvs H' ys = tokV (lexA s).1) ∧ ∃ K, H' = H ++ K := by
  refine w24 ?_
  unfold k24
  simp -implicitDefEqProofs only [kz, kk0, kk1, kk2, kk3, ↓two_true, ↓two_false, oS_some, oM_some, mkv, aggAt, Nat.reduceLeDiff, Nat.reduceSub, Nat.reduceMul, implies_true, Nat.reduceEqDiff, reduceIte, Nat.reduceAdd, Nat.reduceBEq, reduceCtorEq, al96, ap35_35, bd96, bs35_0, bs35_1, cv5_3, fa96_0, (idx_str us9), ld96, ln9, st3, st96]
  refine two_intro (fun h1 => ?_) (fun h1 => ?_)
  · have e : lexA s = ([], 6, 0) := by unfold lexA; rw [if_pos (by have := of_decide_eq_true h1; omega)]
    rw [e]
    exact ⟨⟨_, _, [], rfl, New.at0n (ks := kToken) rfl (by rw [gt0]; rfl) (Nat.le_refl _), rfl⟩, _, rfl⟩
  · have e : lexA s = lexE s s.size 0 [] := by unfold lexA; rw [if_neg (by have := of_decide_eq_false h1; omega)]
    rw [e]
    have hsz : s.size ≤ 300 := by have := of_decide_eq_false h1; omega
    refine rW_loop (σ := Nat × Nat × List (Int × Int) × Option Addr × Nat × List Value) (fun (f, p, acc, a, c, ys) tm H' => tm 0 = .string s ∧ tm 5 = .slice a acc.length c ∧ tm 6 = .int .i64 p ∧ s.size - p ≤ f ∧ p ≤ s.size ∧ acc.length ≤ p ∧ New H H' (.slice a acc.length c) kToken acc.length ys ∧ cvs H' ys = tokV acc ∧ (∃ K, H' = H ++ K) ∧ lexE s s.size 0 [] = lexE s f p acc) (fun x => s.size - x.2.1) (s.size, 0, [], some ⟨H.length, 0, none⟩, 2, []) ?_ ?_
    · simp -implicitDefEqProofs [kk0, kk1, kk2, kk3, rW_block, ↓two_true, ↓two_false, rW_cond, rO_guard, oS_some, oM_some, mkv, aggAt, Nat.reduceLeDiff, Nat.reduceSub, Nat.reduceMul, cond_true, cond_false, Option.bind_some, List.length_append, List.length_cons, List.length_nil, List.append_assoc, List.cons_append, List.nil_append, List.set_cons_zero, List.set_cons_succ, List.size_toArray, List.all_cons, List.all_nil, List.drop_zero, List.drop_succ_cons, List.take_succ_cons, List.take_zero, List.mem_cons, Prod.mk.injEq, List.not_mem_nil, implies_true, List.getElem?_toArray, List.getElem?_cons_zero, List.getElem?_cons_succ, List.getElem?_nil, Option.getD_some, Option.getD_none, Nat.reduceEqDiff, reduceIte, Nat.reduceAdd, List.map_toArray, List.map_cons, List.map_nil, Bool.false_eq_true, Nat.reduceBEq, Option.map_some, Option.map_none, reduceCtorEq, al96, ap35_35, bd96, bs35_0, bs35_1, cv5_3, fa96_0, (idx_str us9), ld96, ln9, st3, st96]
      exact ⟨New.at0n (ks := kToken) rfl (by rw [gt0]; rfl) (Nat.le_refl _), rfl⟩
    · rintro ⟨f, p, acc, a, c, ys⟩ tm H1 ⟨h0, h5, h6, hf, hp, hap, hn, hc, he, hL⟩
      by_cases hlt : p < s.size
      · obtain ⟨f', hf', hgo⟩ := lexE_go (acc := acc) hlt hf
        have wp : IntKind.i64.wrap ((p : Int) + 1) = ((p + 1 : Nat) : Int) := by rw [IntWalk.i64_in _ (by omega)]; omega
        have hb := byt_range s p
        have wc : IntKind.i64.wrap (byt s p) = byt s p := IntWalk.i64_in _ (by omega)
        have dlt : decide ((p : Int) < s.size) = true := decide_eq_true (by omega)
        have dlt2 : decide (p < s.size) = true := decide_eq_true hlt
        have el := fun (L : AH) Φ => l8Digit_eq (s := s) (p := p) hp hs (H := H1 ++ L) (Φ := Φ)
        rw [hgo] at hL
        by_cases h32 : byt s p = 32
        · have e32 : (byt s p == 32) = true := by simp [h32]
          rw [if_pos h32] at hL
          simp -implicitDefEqProofs only [kz, kk0, kk1, kk2, kk3, ↓two_true, ↓two_false, oS_some, oM_some, mkv, aggAt, Nat.reduceLeDiff, Nat.reduceSub, Nat.reduceMul, implies_true, Nat.reduceEqDiff, reduceIte, Nat.reduceAdd, Nat.reduceBEq, reduceCtorEq, al96, ap35_35, bd96, bs35_0, bs35_1, cv5_3, fa96_0, (idx_str us9), ld96, ln9, st3, st96, h0, h5, h6, Int.toNat_natCast, dlt, wc, wp, e32]
          exact ⟨by omega, (f', p + 1, acc, a, c, ys), by simp only; omega, rfl, rfl, hf', hlt, by simp only; omega, hn.mono, by rw [← hc]; exact hn.ot.frow.vals, app_ext he, hL⟩
        · have e32 : (byt s p == 32) = false := by simp [h32]
          rw [if_neg h32] at hL
          by_cases hd : isDg (byt s p) = true ∨ byt s p = 95
          · have cond : (decide (p < s.size) && isDg (byt s p)) = true ∨ (byt s p == 95) = true := by rcases hd with h | h; exact .inl (by simp [hlt, h]); exact .inr (by simp [h])
            have hk : (tokL s p).2.2.2 = 0 → (tokL s p).1 = 1 := fun h => by
              by_cases h95 : byt s p = 95
              · have et : tokL s p = numT s p (p + 1) true := by unfold tokL; rw [if_pos h95]
                rw [et] at h ⊢; exact numT_one h
              · have et : tokL s p = numT s p p false := by unfold tokL; rw [if_neg h95, if_pos (by simpa [h95] using hd)]
                rw [et] at h ⊢; exact numT_one h
            by_cases hg : isDg (byt s p) = true
            · simp -implicitDefEqProofs only [kz, kk0, kk1, kk2, kk3, ↓two_true, ↓two_false, oS_some, oM_some, mkv, aggAt, Nat.reduceLeDiff, Nat.reduceSub, Nat.reduceMul, implies_true, Nat.reduceEqDiff, reduceIte, Nat.reduceAdd, Nat.reduceBEq, reduceCtorEq, al96, ap35_35, bd96, bs35_0, bs35_1, cv5_3, fa96_0, (idx_str us9), ld96, ln9, st3, st96, h0, h5, h6, Int.toNat_natCast, dlt, dlt2, wc, wp, e32, el, hg, Bool.and_true]
              refine ⟨by omega, (l8Num_ok hlt hs hd).mono ?_⟩
              rintro _ H2 ⟨⟨q, rfl, hq⟩, rfl⟩
              simp -implicitDefEqProofs only [kz, kk0, kk1, kk2, kk3, ↓two_true, ↓two_false, oS_some, oM_some, mkv, aggAt, Nat.reduceLeDiff, Nat.reduceSub, Nat.reduceMul, implies_true, Nat.reduceEqDiff, reduceIte, Nat.reduceAdd, Nat.reduceBEq, reduceCtorEq, al96, ap35_35, bd96, bs35_0, bs35_1, cv5_3, fa96_0, (idx_str us9), ld96, ln9, st3, st96, h0, h5, h6]
              refine two_intro (fun h2 => ?_) (fun h2 => ?_)
              · rw [if_pos (by simpa using h2)] at hL
                rw [hL]
                exact ⟨⟨_, _, [], rfl, New.at0n (ks := kToken) rfl (by rw [gti]; rfl) (by have := ext_len he; omega), rfl⟩, app_ext he⟩
              · have h0c : (tokL s p).2.2.2 = 0 := by simpa using h2
                rw [if_neg (by simpa using h2), hk h0c] at hL
                have hnx := tokL_next hlt h0c
                obtain rfl := hq h0c
                refine oA_tok hn he (by omega) fun b3 H3 f3 he3 v3 => ?_
                simp -implicitDefEqProofs only [kz, kk0, kk1, kk2, kk3, ↓two_true, ↓two_false, oS_some, oM_some, mkv, aggAt, Nat.reduceLeDiff, Nat.reduceSub, Nat.reduceMul, implies_true, Nat.reduceEqDiff, reduceIte, Nat.reduceAdd, Nat.reduceBEq, reduceCtorEq, al96, ap35_35, bd96, bs35_0, bs35_1, cv5_3, fa96_0, (idx_str us9), ld96, ln9, st3, st96, h0, h5, h6]
                exact ⟨(f', (tokL s p).2.2.1, acc ++ [(1, (tokL s p).2.1)], some ⟨b3, 0, none⟩, 2, ys ++ [.int .i64 (1), .int .i64 ((tokL s p).2.1)]), by simp only; omega, by simp only [List.length_append, List.length_cons, List.length_nil, Nat.zero_add], rfl, by simp only; omega, by simp only; omega, by simp only [List.length_append, List.length_cons, List.length_nil]; omega, by simpa using f3, by rw [v3, hc, tokV_snoc], he3, hL⟩
            · have hg' : isDg (byt s p) = false := by simpa using hg
              have e95 : (byt s p == 95) = true := by simpa [hg] using hd
              simp -implicitDefEqProofs only [kz, kk0, kk1, kk2, kk3, ↓two_true, ↓two_false, oS_some, oM_some, mkv, aggAt, Nat.reduceLeDiff, Nat.reduceSub, Nat.reduceMul, implies_true, Nat.reduceEqDiff, reduceIte, Nat.reduceAdd, Nat.reduceBEq, reduceCtorEq, al96, ap35_35, bd96, bs35_0, bs35_1, cv5_3, fa96_0, (idx_str us9), ld96, ln9, st3, st96, h0, h5, h6, Int.toNat_natCast, dlt, dlt2, wc, wp, e32, el, hg', e95, Bool.and_false]
              refine ⟨by omega, (l8Num_ok hlt hs hd).mono ?_⟩
              rintro _ H2 ⟨⟨q, rfl, hq⟩, rfl⟩
              simp -implicitDefEqProofs only [kz, kk0, kk1, kk2, kk3, ↓two_true, ↓two_false, oS_some, oM_some, mkv, aggAt, Nat.reduceLeDiff, Nat.reduceSub, Nat.reduceMul, implies_true, Nat.reduceEqDiff, reduceIte, Nat.reduceAdd, Nat.reduceBEq, reduceCtorEq, al96, ap35_35, bd96, bs35_0, bs35_1, cv5_3, fa96_0, (idx_str us9), ld96, ln9, st3, st96, h0, h5, h6]
              refine two_intro (fun h2 => ?_) (fun h2 => ?_)
              · rw [if_pos (by simpa using h2)] at hL
                rw [hL]
                exact ⟨⟨_, _, [], rfl, New.at0n (ks := kToken) rfl (by rw [gti]; rfl) (by have := ext_len he; omega), rfl⟩, app_ext he⟩
              · have h0c : (tokL s p).2.2.2 = 0 := by simpa using h2
                rw [if_neg (by simpa using h2), hk h0c] at hL
                have hnx := tokL_next hlt h0c
                obtain rfl := hq h0c
                refine oA_tok hn he (by omega) fun b3 H3 f3 he3 v3 => ?_
                simp -implicitDefEqProofs only [kz, kk0, kk1, kk2, kk3, ↓two_true, ↓two_false, oS_some, oM_some, mkv, aggAt, Nat.reduceLeDiff, Nat.reduceSub, Nat.reduceMul, implies_true, Nat.reduceEqDiff, reduceIte, Nat.reduceAdd, Nat.reduceBEq, reduceCtorEq, al96, ap35_35, bd96, bs35_0, bs35_1, cv5_3, fa96_0, (idx_str us9), ld96, ln9, st3, st96, h0, h5, h6]
                exact ⟨(f', (tokL s p).2.2.1, acc ++ [(1, (tokL s p).2.1)], some ⟨b3, 0, none⟩, 2, ys ++ [.int .i64 (1), .int .i64 ((tokL s p).2.1)]), by simp only; omega, by simp only [List.length_append, List.length_cons, List.length_nil, Nat.zero_add], rfl, by simp only; omega, by simp only; omega, by simp only [List.length_append, List.length_cons, List.length_nil]; omega, by simpa using f3, by rw [v3, hc, tokV_snoc], he3, hL⟩
          · have h95 : byt s p ≠ 95 := fun h => hd (.inr h)
            have hg : isDg (byt s p) = false := by cases h : isDg (byt s p); rfl; exact absurd (.inl h) hd
            have e95 : (byt s p == 95) = false := by simp [h95]
            rw [tokL_neg h95 hg] at hL
            simp -implicitDefEqProofs only [kz, kk0, kk1, kk2, kk3, ↓two_true, ↓two_false, oS_some, oM_some, mkv, aggAt, Nat.reduceLeDiff, Nat.reduceSub, Nat.reduceMul, implies_true, Nat.reduceEqDiff, reduceIte, Nat.reduceAdd, Nat.reduceBEq, reduceCtorEq, al96, ap35_35, bd96, bs35_0, bs35_1, cv5_3, fa96_0, (idx_str us9), ld96, ln9, st3, st96, h0, h5, h6, Int.toNat_natCast, dlt, dlt2, wc, wp, e32, el, hg, e95, Bool.and_false, Bool.true_and, l1In_eq, l8Sign_eq]
            refine ⟨by omega, two_intro (fun a1 => ?_) (fun a1 => ?_)⟩
            · have a3 : 65 ≤ byt s p ∧ byt s p ≤ 90 := by simpa [inB] using a1
              have hL2 : lexE s s.size 0 [] = lexE s f' (p + 1) (acc ++ [(2, byt s p - 65)]) := by rw [hL, if_pos a3]; exact if_neg (by simp)
              rw [IntWalk.i64_in (byt s p - 65) (by omega)]
              refine oA_tok hn he (by omega) fun b3 H3 f3 he3 v3 => ?_
              simp -implicitDefEqProofs only [kz, kk0, kk1, kk2, kk3, ↓two_true, ↓two_false, oS_some, oM_some, mkv, aggAt, Nat.reduceLeDiff, Nat.reduceSub, Nat.reduceMul, implies_true, Nat.reduceEqDiff, reduceIte, Nat.reduceAdd, Nat.reduceBEq, reduceCtorEq, al96, ap35_35, bd96, bs35_0, bs35_1, cv5_3, fa96_0, (idx_str us9), ld96, ln9, st3, st96, h0, h5, h6]
              exact ⟨(f', p + 1, acc ++ [(2, byt s p - 65)], some ⟨b3, 0, none⟩, 2, ys ++ [.int .i64 (2), .int .i64 (byt s p - 65)]), by simp only; omega, by simp only [List.length_append, List.length_cons, List.length_nil, Nat.zero_add], rfl, by simp only; omega, by simp only; omega, by simp only [List.length_append, List.length_cons, List.length_nil]; omega, by simpa using f3, by rw [v3, hc, tokV_snoc], he3, hL2⟩
            · rw [if_neg (show ¬ (65 ≤ byt s p ∧ byt s p ≤ 90) from fun h => by simp [inB, h.1, h.2] at a1)] at hL
              refine two_intro (fun b1 => ?_) (fun b1 => ?_)
              · have hL2 : lexE s s.size 0 [] = lexE s f' (p + 1) (acc ++ [(4, 0)]) := by rw [hL, if_pos (eq_of_beq b1)]; exact if_neg (by simp)
                refine oA_tok hn he (by omega) fun b3 H3 f3 he3 v3 => ?_
                simp -implicitDefEqProofs only [kz, kk0, kk1, kk2, kk3, ↓two_true, ↓two_false, oS_some, oM_some, mkv, aggAt, Nat.reduceLeDiff, Nat.reduceSub, Nat.reduceMul, implies_true, Nat.reduceEqDiff, reduceIte, Nat.reduceAdd, Nat.reduceBEq, reduceCtorEq, al96, ap35_35, bd96, bs35_0, bs35_1, cv5_3, fa96_0, (idx_str us9), ld96, ln9, st3, st96, h0, h5, h6]
                exact ⟨(f', p + 1, acc ++ [(4, 0)], some ⟨b3, 0, none⟩, 2, ys ++ [.int .i64 (4), .int .i64 (0)]), by simp only; omega, by simp only [List.length_append, List.length_cons, List.length_nil, Nat.zero_add], rfl, by simp only; omega, by simp only; omega, by simp only [List.length_append, List.length_cons, List.length_nil]; omega, by simpa using f3, by rw [v3, hc, tokV_snoc], he3, hL2⟩
              rw [if_neg (beq_eq_false_iff_ne.1 b1)] at hL
              refine two_intro (fun b1 => ?_) (fun b1 => ?_)
              · have hL2 : lexE s s.size 0 [] = lexE s f' (p + 1) (acc ++ [(5, 0)]) := by rw [hL, if_pos (eq_of_beq b1)]; exact if_neg (by simp)
                refine oA_tok hn he (by omega) fun b3 H3 f3 he3 v3 => ?_
                simp -implicitDefEqProofs only [kz, kk0, kk1, kk2, kk3, ↓two_true, ↓two_false, oS_some, oM_some, mkv, aggAt, Nat.reduceLeDiff, Nat.reduceSub, Nat.reduceMul, implies_true, Nat.reduceEqDiff, reduceIte, Nat.reduceAdd, Nat.reduceBEq, reduceCtorEq, al96, ap35_35, bd96, bs35_0, bs35_1, cv5_3, fa96_0, (idx_str us9), ld96, ln9, st3, st96, h0, h5, h6]
                exact ⟨(f', p + 1, acc ++ [(5, 0)], some ⟨b3, 0, none⟩, 2, ys ++ [.int .i64 (5), .int .i64 (0)]), by simp only; omega, by simp only [List.length_append, List.length_cons, List.length_nil, Nat.zero_add], rfl, by simp only; omega, by simp only; omega, by simp only [List.length_append, List.length_cons, List.length_nil]; omega, by simpa using f3, by rw [v3, hc, tokV_snoc], he3, hL2⟩
              rw [if_neg (beq_eq_false_iff_ne.1 b1)] at hL
              refine two_intro (fun b1 => ?_) (fun b1 => ?_)
              · have hL2 : lexE s s.size 0 [] = lexE s f' (p + 1) (acc ++ [(6, 0)]) := by rw [hL, if_pos (eq_of_beq b1)]; exact if_neg (by simp)
                refine oA_tok hn he (by omega) fun b3 H3 f3 he3 v3 => ?_
                simp -implicitDefEqProofs only [kz, kk0, kk1, kk2, kk3, ↓two_true, ↓two_false, oS_some, oM_some, mkv, aggAt, Nat.reduceLeDiff, Nat.reduceSub, Nat.reduceMul, implies_true, Nat.reduceEqDiff, reduceIte, Nat.reduceAdd, Nat.reduceBEq, reduceCtorEq, al96, ap35_35, bd96, bs35_0, bs35_1, cv5_3, fa96_0, (idx_str us9), ld96, ln9, st3, st96, h0, h5, h6]
                exact ⟨(f', p + 1, acc ++ [(6, 0)], some ⟨b3, 0, none⟩, 2, ys ++ [.int .i64 (6), .int .i64 (0)]), by simp only; omega, by simp only [List.length_append, List.length_cons, List.length_nil, Nat.zero_add], rfl, by simp only; omega, by simp only; omega, by simp only [List.length_append, List.length_cons, List.length_nil]; omega, by simpa using f3, by rw [v3, hc, tokV_snoc], he3, hL2⟩
              rw [if_neg (beq_eq_false_iff_ne.1 b1)] at hL
              refine two_intro (fun b1 => ?_) (fun b1 => ?_)
              · have hL2 : lexE s s.size 0 [] = lexE s f' (p + 1) (acc ++ [(3, byt s p)]) := by rw [hL, if_pos b1]; exact if_neg (by simp)
                refine oA_tok hn he (by omega) fun b3 H3 f3 he3 v3 => ?_
                simp -implicitDefEqProofs only [kz, kk0, kk1, kk2, kk3, ↓two_true, ↓two_false, oS_some, oM_some, mkv, aggAt, Nat.reduceLeDiff, Nat.reduceSub, Nat.reduceMul, implies_true, Nat.reduceEqDiff, reduceIte, Nat.reduceAdd, Nat.reduceBEq, reduceCtorEq, al96, ap35_35, bd96, bs35_0, bs35_1, cv5_3, fa96_0, (idx_str us9), ld96, ln9, st3, st96, h0, h5, h6]
                exact ⟨(f', p + 1, acc ++ [(3, byt s p)], some ⟨b3, 0, none⟩, 2, ys ++ [.int .i64 (3), .int .i64 (byt s p)]), by simp only; omega, by simp only [List.length_append, List.length_cons, List.length_nil, Nat.zero_add], rfl, by simp only; omega, by simp only; omega, by simp only [List.length_append, List.length_cons, List.length_nil]; omega, by simpa using f3, by rw [v3, hc, tokV_snoc], he3, hL2⟩
              have hL2 : lexE s s.size 0 [] = ([], 8, p) := by rw [hL, if_neg (show ¬ hasS tkSigns (byt s p) = true by rw [b1]; exact Bool.false_ne_true)]; exact if_pos (show (8 : Int) ≠ 0 by decide)
              rw [hL2]
              exact ⟨⟨_, _, [], rfl, New.at0n (ks := kToken) rfl (by rw [gti]; rfl) (by have := ext_len he; omega), rfl⟩, app_ext he⟩
      · have dlt : decide ((p : Int) < s.size) = false := decide_eq_false (by omega)
        rw [lexE_stop hlt] at hL
        rw [hL]
        simp -implicitDefEqProofs only [kz, kk0, kk1, kk2, kk3, ↓two_true, ↓two_false, oS_some, oM_some, mkv, aggAt, Nat.reduceLeDiff, Nat.reduceSub, Nat.reduceMul, implies_true, Nat.reduceEqDiff, reduceIte, Nat.reduceAdd, Nat.reduceBEq, reduceCtorEq, al96, ap35_35, bd96, bs35_0, bs35_1, cv5_3, fa96_0, (idx_str us9), ld96, ln9, st3, st96, h0, h5, h6, dlt]
        exact ⟨⟨a, c, ys, rfl, hn, hc⟩, he⟩
theorem lexE_len {s : ByteArray} : ∀ (f p : Nat) (acc : List (Int × Int)), (lexE s f p acc).1.length ≤ acc.length + f
  | 0, p, acc => by simp [lexE]
  | f + 1, p, acc => by
    unfold lexE
    split
    · split
      · have := lexE_len (s := s) f (p + 1) acc; omega
      · split
        · simp
        · have := lexE_len (s := s) f (tokL s p).2.2.1 (acc ++ [((tokL s p).1, (tokL s p).2.1)])
          simp at this; omega
    · simp
theorem lexA_len {s : ByteArray} : (lexA s).1.length ≤ 300 := by
  unfold lexA
  split
  · simp
  · have := lexE_len (s := s) s.size 0 []; simp at this; omega
theorem tokV_cnt {l : List (Int × Int)} : cntF (tokV l) ≤ 2 * l.length := by
  induction l with
  | nil => simp [tokV, cntF]
  | cons x t ih =>
    have e : tokV (x :: t) = [.i x.1, .i x.2] ++ tokV t := rfl
    rw [e]
    simp only [cntF, List.map_append, List.sum_append, List.map_cons, List.map_nil, List.sum_cons, List.sum_nil, List.length_cons] at ih ⊢
    simp only [cnt1]
    omega
theorem rpStr {P : Program} {H : AH} {t : TypeId} {v : Value} (hu : P.underlying t = some .string) (h : RpV P H t v) : ∃ s, v = .string s := by
  obtain ⟨k, vs, h, rfl⟩ := h
  cases k with
  | zero => exact h.elim
  | succ k =>
    simp only [Rp, hu] at h
    obtain ⟨s, rfl, _⟩ := h
    exact ⟨s, by simp [mkV, hu]⟩
theorem lexNewL {H H' : AH} {a : Option Addr} {c : Nat} {l : List (Int × Int)} {ys : List Value} (h : New H H' (.slice a l.length c) kToken l.length ys) (hv : cvs H' ys = tokV l) : NewL H H' [.row (.slice a l.length c) kToken l.length ys] [tokV l] := h.newL hv

set_option maxHeartbeats 4000000 in
theorem law4 : LawA Try.prog 4 [9] := by
  intro H vs hro h
  obtain ⟨v, vs, rfl, h1, h2⟩ := h.cons
  obtain rfl := h2.nil
  obtain ⟨s, rfl⟩ := rpStr Try.underlying9 h1
  refine w4 ?_
  unfold k4
  simp -implicitDefEqProofs only [kz, kk0, kk1, kk2, kk3, ↓two_true, ↓two_false, oS_some, oM_some, mkv, aggAt, Nat.reduceLeDiff, Nat.reduceSub, Nat.reduceMul, implies_true, Nat.reduceEqDiff, reduceIte, Nat.reduceAdd, Nat.reduceBEq, reduceCtorEq, ln9]
  refine two_intro (fun h => trivial) (fun h => ?_)
  have hs : s.size ≤ 1048576 := by have := of_decide_eq_false h; omega
  have hl := lexA_len (s := s)
  have hcn := tokV_cnt (l := (lexA s).1)
  clear h
  refine (specLex_ok hs).mono ?_
  rintro _ H1 ⟨⟨wa, wc, wys, rfl, nw, vw⟩, hK1⟩
  have nlw := lexNewL nw vw
  have f_w := nlw.ok.1
  have r_w := nlw.ok.2
  have L1 := ext_len hK1
  simp -implicitDefEqProofs only [kz, kk0, kk1, kk2, kk3, ↓two_true, ↓two_false, oS_some, oM_some, mkv, aggAt, Nat.reduceLeDiff, Nat.reduceSub, Nat.reduceMul, implies_true, Nat.reduceEqDiff, reduceIte, Nat.reduceAdd, Nat.reduceBEq, reduceCtorEq, ln9]
  refine (implLex_ok hs).mono ?_
  rintro _ H2 ⟨⟨ga, gc, gys, rfl, ng, vg⟩, hK2⟩
  have nlg := lexNewL ng vg
  have f_g := nlg.ok.1
  have r_g := nlg.ok.2
  have L2 := ext_len hK2
  have f_w := f_w.ext hK2
  clear nlw nlg nw ng vw vg
  have hc1 : cntF ([tokV (lexA s).1] : List (List CV)).flatten = cntF (tokV (lexA s).1) := by simp
  simp -implicitDefEqProofs only [kz, kk0, kk1, kk2, kk3, ↓two_true, ↓two_false, oS_some, oM_some, mkv, aggAt, Nat.reduceLeDiff, Nat.reduceSub, Nat.reduceMul, implies_true, Nat.reduceEqDiff, reduceIte, Nat.reduceAdd, Nat.reduceBEq, reduceCtorEq, ln9]
  refine (eqTokenS_th f_g.rd f_w.rd (by omega) (by omega)).mono ?_
  rintro _ H3 ⟨rfl, hK3⟩
  have L3 := ext_len hK3
  have f_w := f_w.ext hK3
  have f_g := f_g.ext hK3
  simp -implicitDefEqProofs only [kz, kk0, kk1, kk2, kk3, ↓two_true, ↓two_false, oS_some, oM_some, mkv, aggAt, Nat.reduceLeDiff, Nat.reduceSub, Nat.reduceMul, implies_true, Nat.reduceEqDiff, reduceIte, Nat.reduceAdd, Nat.reduceBEq, reduceCtorEq, ln9, beq_self_eq_true, bne_self_eq_false, Bool.not_true]
  refine (markTokenS_u f_g (by omega) (by rw [hc1]; omega)).mono ?_
  rintro _ H4 ⟨rfl, gys1, V1, hm, fm, vm⟩
  have L4 := hm.len
  have hfr := (hm.ok r_g).2
  have f_w := f_w.frame hfr (r_w.off (by omega))
  have f_g := fm
  have hc2 : cntF ([V1] : List (List CV)).flatten = cntF (tokV (lexA s).1) := by rw [vm, cntF_mark, hc1]
  have hh : heldF ([V1] : List (List CV)).flatten 1 = 1 + cntF (tokV (lexA s).1) := by rw [vm, heldF_mark _ _ (by decide), hc1]
  have d1 : decide ((1 : Int) + (cntF (tokV (lexA s).1) : Int) < 0) = false := decide_eq_false (by omega)
  clear hm fm vm hfr
  rw [hc1]
  simp -implicitDefEqProofs only [kz, kk0, kk1, kk2, kk3, ↓two_true, ↓two_false, oS_some, oM_some, mkv, aggAt, Nat.reduceLeDiff, Nat.reduceSub, Nat.reduceMul, implies_true, Nat.reduceEqDiff, reduceIte, Nat.reduceAdd, Nat.reduceBEq, reduceCtorEq, ln9]
  refine (heldTokenS_u f_g (by omega) (by rw [hc2]; omega)).mono ?_
  rintro _ H5 ⟨rfl, hK5⟩
  rw [hh]
  have f_w := f_w.ext hK5
  have f_g := f_g.ext hK5
  simp -implicitDefEqProofs only [kz, kk0, kk1, kk2, kk3, ↓two_true, ↓two_false, oS_some, oM_some, mkv, aggAt, Nat.reduceLeDiff, Nat.reduceSub, Nat.reduceMul, implies_true, Nat.reduceEqDiff, reduceIte, Nat.reduceAdd, Nat.reduceBEq, reduceCtorEq, ln9, d1, bne_self_eq_false]
  refine (implLex_ok hs).mono ?_
  rintro _ H6 ⟨⟨ha, hc, hys, rfl, nh, vh⟩, hK6⟩
  have nlh := lexNewL nh vh
  have f_h := nlh.ok.1
  have f_w := f_w.ext hK6
  have f_g := f_g.ext hK6
  simp -implicitDefEqProofs only [kz, kk0, kk1, kk2, kk3, ↓two_true, ↓two_false, oS_some, oM_some, mkv, aggAt, Nat.reduceLeDiff, Nat.reduceSub, Nat.reduceMul, implies_true, Nat.reduceEqDiff, reduceIte, Nat.reduceAdd, Nat.reduceBEq, reduceCtorEq, ln9]
  refine (eqTokenS_th f_h.rd f_w.rd (by omega) (by omega)).mono ?_
  rintro _ H7 ⟨rfl, hK7⟩
  have f_g := f_g.ext hK7
  simp -implicitDefEqProofs only [kz, kk0, kk1, kk2, kk3, ↓two_true, ↓two_false, oS_some, oM_some, mkv, aggAt, Nat.reduceLeDiff, Nat.reduceSub, Nat.reduceMul, implies_true, Nat.reduceEqDiff, reduceIte, Nat.reduceAdd, Nat.reduceBEq, reduceCtorEq, ln9, beq_self_eq_true, bne_self_eq_false, Bool.not_true]
  refine (heldTokenS_u f_g (by omega) (by rw [hc2]; omega)).mono ?_
  rintro _ H8 ⟨rfl, hK8⟩
  rw [hh]
  simp -implicitDefEqProofs only [kz, kk0, kk1, kk2, kk3, ↓two_true, ↓two_false, oS_some, oM_some, mkv, aggAt, Nat.reduceLeDiff, Nat.reduceSub, Nat.reduceMul, implies_true, Nat.reduceEqDiff, reduceIte, Nat.reduceAdd, Nat.reduceBEq, reduceCtorEq, ln9, d1, bne_self_eq_false]

end Go.Proofs.Ytgekbancaeabgaa.AM
