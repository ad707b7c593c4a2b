/- What the functions answer, part 2. -/
import Derived.Test.YtdagncfnkenbfaaP1
set_option linter.unusedVariables false
set_option linter.unusedSimpArgs false
set_option linter.defProp false
set_option maxRecDepth 100000
/- What the functions answer, part 2. -/
namespace Go.Proofs.Ytdagncfnkenbfaa.AM
open Go Go.Proofs.Ytdagncfnkenbfaa Go.Proofs
set_option maxHeartbeats 4000000 in
theorem specLex_ok {s : ByteArray} (hs : s.size ≤ 1048576) {H : AH} : CallsA Try.prog 10 #[.string s] H fun r H' => (∃ a c ys, r = .tuple #[.slice a (lexA s).1.length c, .int .i64 (lexA s).2.1, .int .i64 ((lexA s).2.2 : Nat)] ∧ New H H' (.slice a (lexA s).1.length c) kToken (lexA s).1.length ys ∧ cvs H' ys = tokV (lexA s).1) ∧ ∃ K, H' = H ++ K := by
  refine w10 ?_
  unfold k10
  simp -implicitDefEqProofs only [kz, kk0, kk1, kk2, kk3, ↓two_true, ↓two_false, oS_some, oM_some, mkv, aggAt, Nat.reduceLeDiff, Nat.reduceSub, Nat.reduceMul, implies_true, Nat.reduceEqDiff, reduceIte, Nat.reduceAdd, Nat.reduceBEq, reduceCtorEq, al54, ap25_25, bd54, bs25_0, bs25_1, cv5_3, fa54_0, (idx_str us9), ld54, ln9, st3, st54]
  refine two_intro (fun h1 => ?_) (fun h1 => ?_)
  · have e : lexA s = ([], 6, 0) := by unfold lexA; rw [if_pos (by have := of_decide_eq_true h1; omega)]
    rw [e]
    exact ⟨⟨_, _, [], rfl, New.at0n (ks := kToken) rfl (by rw [gt0]; rfl) (Nat.le_refl _), rfl⟩, _, rfl⟩
  · have e : lexA s = lexE s s.size 0 [] := by unfold lexA; rw [if_neg (by have := of_decide_eq_false h1; omega)]
    rw [e]
    have hsz : s.size ≤ 300 := by have := of_decide_eq_false h1; omega
    refine rW_loop (σ := Nat × Nat × List (Int × Int) × Option Addr × Nat × List Value) (fun (f, p, acc, a, c, ys) tm H' => tm 0 = .string s ∧ tm 5 = .slice a acc.length c ∧ tm 6 = .int .i64 p ∧ s.size - p ≤ f ∧ p ≤ s.size ∧ acc.length ≤ p ∧ New H H' (.slice a acc.length c) kToken acc.length ys ∧ cvs H' ys = tokV acc ∧ (∃ K, H' = H ++ K) ∧ lexE s s.size 0 [] = lexE s f p acc) (fun x => s.size - x.2.1) (s.size, 0, [], some ⟨H.length, 0, none⟩, 2, []) ?_ ?_
    · simp -implicitDefEqProofs [kk0, kk1, kk2, kk3, rW_block, ↓two_true, ↓two_false, rW_cond, rO_guard, oS_some, oM_some, mkv, aggAt, Nat.reduceLeDiff, Nat.reduceSub, Nat.reduceMul, cond_true, cond_false, Option.bind_some, List.length_append, List.length_cons, List.length_nil, List.append_assoc, List.cons_append, List.nil_append, List.set_cons_zero, List.set_cons_succ, List.size_toArray, List.all_cons, List.all_nil, List.drop_zero, List.drop_succ_cons, List.take_succ_cons, List.take_zero, List.mem_cons, Prod.mk.injEq, List.not_mem_nil, implies_true, List.getElem?_toArray, List.getElem?_cons_zero, List.getElem?_cons_succ, List.getElem?_nil, Option.getD_some, Option.getD_none, Nat.reduceEqDiff, reduceIte, Nat.reduceAdd, List.map_toArray, List.map_cons, List.map_nil, Bool.false_eq_true, Nat.reduceBEq, Option.map_some, Option.map_none, reduceCtorEq, al54, ap25_25, bd54, bs25_0, bs25_1, cv5_3, fa54_0, (idx_str us9), ld54, ln9, st3, st54]
      exact ⟨New.at0n (ks := kToken) rfl (by rw [gt0]; rfl) (Nat.le_refl _), rfl⟩
    · rintro ⟨f, p, acc, a, c, ys⟩ tm H1 ⟨h0, h5, h6, hf, hp, hap, hn, hc, he, hL⟩
      by_cases hlt : p < s.size
      · obtain ⟨f', hf', hgo⟩ := lexE_go (acc := acc) hlt hf
        have wp : IntKind.i64.wrap ((p : Int) + 1) = ((p + 1 : Nat) : Int) := by rw [IntWalk.i64_in _ (by omega)]; omega
        have hb := byt_range s p
        have wc : IntKind.i64.wrap (byt s p) = byt s p := IntWalk.i64_in _ (by omega)
        have dlt : decide ((p : Int) < s.size) = true := decide_eq_true (by omega)
        have dlt2 : decide (p < s.size) = true := decide_eq_true hlt
        have el := fun (L : AH) Φ => l8Digit_eq (s := s) (p := p) hp hs (H := H1 ++ L) (Φ := Φ)
        rw [hgo] at hL
        by_cases h32 : byt s p = 32
        · have e32 : (byt s p == 32) = true := by simp [h32]
          rw [if_pos h32] at hL
          simp -implicitDefEqProofs only [kz, kk0, kk1, kk2, kk3, ↓two_true, ↓two_false, oS_some, oM_some, mkv, aggAt, Nat.reduceLeDiff, Nat.reduceSub, Nat.reduceMul, implies_true, Nat.reduceEqDiff, reduceIte, Nat.reduceAdd, Nat.reduceBEq, reduceCtorEq, al54, ap25_25, bd54, bs25_0, bs25_1, cv5_3, fa54_0, (idx_str us9), ld54, ln9, st3, st54, h0, h5, h6, Int.toNat_natCast, dlt, wc, wp, e32]
          exact ⟨by omega, (f', p + 1, acc, a, c, ys), by simp only; omega, rfl, rfl, hf', hlt, by simp only; omega, hn.mono, by rw [← hc]; exact hn.ot.frow.vals, app_ext he, hL⟩
        · have e32 : (byt s p == 32) = false := by simp [h32]
          rw [if_neg h32] at hL
          by_cases hd : isDg (byt s p) = true ∨ byt s p = 95
          · have cond : (decide (p < s.size) && isDg (byt s p)) = true ∨ (byt s p == 95) = true := by rcases hd with h | h; exact .inl (by simp [hlt, h]); exact .inr (by simp [h])
            have hk : (tokL s p).2.2.2 = 0 → (tokL s p).1 = 1 := fun h => by
              by_cases h95 : byt s p = 95
              · have et : tokL s p = numT s p (p + 1) true := by unfold tokL; rw [if_pos h95]
                rw [et] at h ⊢; exact numT_one h
              · have et : tokL s p = numT s p p false := by unfold tokL; rw [if_neg h95, if_pos (by simpa [h95] using hd)]
                rw [et] at h ⊢; exact numT_one h
            by_cases hg : isDg (byt s p) = true
            · simp -implicitDefEqProofs only [kz, kk0, kk1, kk2, kk3, ↓two_true, ↓two_false, oS_some, oM_some, mkv, aggAt, Nat.reduceLeDiff, Nat.reduceSub, Nat.reduceMul, implies_true, Nat.reduceEqDiff, reduceIte, Nat.reduceAdd, Nat.reduceBEq, reduceCtorEq, al54, ap25_25, bd54, bs25_0, bs25_1, cv5_3, fa54_0, (idx_str us9), ld54, ln9, st3, st54, h0, h5, h6, Int.toNat_natCast, dlt, dlt2, wc, wp, e32, el, hg, Bool.and_true]
              refine ⟨by omega, (l8Num_ok hlt hs hd).mono ?_⟩
              rintro _ H2 ⟨⟨q, rfl, hq⟩, rfl⟩
              simp -implicitDefEqProofs only [kz, kk0, kk1, kk2, kk3, ↓two_true, ↓two_false, oS_some, oM_some, mkv, aggAt, Nat.reduceLeDiff, Nat.reduceSub, Nat.reduceMul, implies_true, Nat.reduceEqDiff, reduceIte, Nat.reduceAdd, Nat.reduceBEq, reduceCtorEq, al54, ap25_25, bd54, bs25_0, bs25_1, cv5_3, fa54_0, (idx_str us9), ld54, ln9, st3, st54, h0, h5, h6]
              refine two_intro (fun h2 => ?_) (fun h2 => ?_)
              · rw [if_pos (by simpa using h2)] at hL
                rw [hL]
                exact ⟨⟨_, _, [], rfl, New.at0n (ks := kToken) rfl (by rw [gti]; rfl) (by have := ext_len he; omega), rfl⟩, app_ext he⟩
              · have h0c : (tokL s p).2.2.2 = 0 := by simpa using h2
                rw [if_neg (by simpa using h2), hk h0c] at hL
                have hnx := tokL_next hlt h0c
                obtain rfl := hq h0c
                refine oA_tok hn he (by omega) fun b3 H3 f3 he3 v3 => ?_
                simp -implicitDefEqProofs only [kz, kk0, kk1, kk2, kk3, ↓two_true, ↓two_false, oS_some, oM_some, mkv, aggAt, Nat.reduceLeDiff, Nat.reduceSub, Nat.reduceMul, implies_true, Nat.reduceEqDiff, reduceIte, Nat.reduceAdd, Nat.reduceBEq, reduceCtorEq, al54, ap25_25, bd54, bs25_0, bs25_1, cv5_3, fa54_0, (idx_str us9), ld54, ln9, st3, st54, h0, h5, h6]
                exact ⟨(f', (tokL s p).2.2.1, acc ++ [(1, (tokL s p).2.1)], some ⟨b3, 0, none⟩, 2, ys ++ [.int .i64 (1), .int .i64 ((tokL s p).2.1)]), by simp only; omega, by simp only [List.length_append, List.length_cons, List.length_nil, Nat.zero_add], rfl, by simp only; omega, by simp only; omega, by simp only [List.length_append, List.length_cons, List.length_nil]; omega, by simpa using f3, by rw [v3, hc, tokV_snoc], he3, hL⟩
            · have hg' : isDg (byt s p) = false := by simpa using hg
              have e95 : (byt s p == 95) = true := by simpa [hg] using hd
              simp -implicitDefEqProofs only [kz, kk0, kk1, kk2, kk3, ↓two_true, ↓two_false, oS_some, oM_some, mkv, aggAt, Nat.reduceLeDiff, Nat.reduceSub, Nat.reduceMul, implies_true, Nat.reduceEqDiff, reduceIte, Nat.reduceAdd, Nat.reduceBEq, reduceCtorEq, al54, ap25_25, bd54, bs25_0, bs25_1, cv5_3, fa54_0, (idx_str us9), ld54, ln9, st3, st54, h0, h5, h6, Int.toNat_natCast, dlt, dlt2, wc, wp, e32, el, hg', e95, Bool.and_false]
              refine ⟨by omega, (l8Num_ok hlt hs hd).mono ?_⟩
              rintro _ H2 ⟨⟨q, rfl, hq⟩, rfl⟩
              simp -implicitDefEqProofs only [kz, kk0, kk1, kk2, kk3, ↓two_true, ↓two_false, oS_some, oM_some, mkv, aggAt, Nat.reduceLeDiff, Nat.reduceSub, Nat.reduceMul, implies_true, Nat.reduceEqDiff, reduceIte, Nat.reduceAdd, Nat.reduceBEq, reduceCtorEq, al54, ap25_25, bd54, bs25_0, bs25_1, cv5_3, fa54_0, (idx_str us9), ld54, ln9, st3, st54, h0, h5, h6]
              refine two_intro (fun h2 => ?_) (fun h2 => ?_)
              · rw [if_pos (by simpa using h2)] at hL
                rw [hL]
                exact ⟨⟨_, _, [], rfl, New.at0n (ks := kToken) rfl (by rw [gti]; rfl) (by have := ext_len he; omega), rfl⟩, app_ext he⟩
              · have h0c : (tokL s p).2.2.2 = 0 := by simpa using h2
                rw [if_neg (by simpa using h2), hk h0c] at hL
                have hnx := tokL_next hlt h0c
                obtain rfl := hq h0c
                refine oA_tok hn he (by omega) fun b3 H3 f3 he3 v3 => ?_
                simp -implicitDefEqProofs only [kz, kk0, kk1, kk2, kk3, ↓two_true, ↓two_false, oS_some, oM_some, mkv, aggAt, Nat.reduceLeDiff, Nat.reduceSub, Nat.reduceMul, implies_true, Nat.reduceEqDiff, reduceIte, Nat.reduceAdd, Nat.reduceBEq, reduceCtorEq, al54, ap25_25, bd54, bs25_0, bs25_1, cv5_3, fa54_0, (idx_str us9), ld54, ln9, st3, st54, h0, h5, h6]
                exact ⟨(f', (tokL s p).2.2.1, acc ++ [(1, (tokL s p).2.1)], some ⟨b3, 0, none⟩, 2, ys ++ [.int .i64 (1), .int .i64 ((tokL s p).2.1)]), by simp only; omega, by simp only [List.length_append, List.length_cons, List.length_nil, Nat.zero_add], rfl, by simp only; omega, by simp only; omega, by simp only [List.length_append, List.length_cons, List.length_nil]; omega, by simpa using f3, by rw [v3, hc, tokV_snoc], he3, hL⟩
          · have h95 : byt s p ≠ 95 := fun h => hd (.inr h)
            have hg : isDg (byt s p) = false := by cases h : isDg (byt s p); rfl; exact absurd (.inl h) hd
            have e95 : (byt s p == 95) = false := by simp [h95]
            rw [tokL_neg h95 hg] at hL
            simp -implicitDefEqProofs only [kz, kk0, kk1, kk2, kk3, ↓two_true, ↓two_false, oS_some, oM_some, mkv, aggAt, Nat.reduceLeDiff, Nat.reduceSub, Nat.reduceMul, implies_true, Nat.reduceEqDiff, reduceIte, Nat.reduceAdd, Nat.reduceBEq, reduceCtorEq, al54, ap25_25, bd54, bs25_0, bs25_1, cv5_3, fa54_0, (idx_str us9), ld54, ln9, st3, st54, h0, h5, h6, Int.toNat_natCast, dlt, dlt2, wc, wp, e32, el, hg, e95, Bool.and_false, Bool.true_and, l1In_eq, l8Sign_eq]
            refine ⟨by omega, two_intro (fun a1 => ?_) (fun a1 => ?_)⟩
            · have a3 : 65 ≤ byt s p ∧ byt s p ≤ 90 := by simpa [inB] using a1
              have hL2 : lexE s s.size 0 [] = lexE s f' (p + 1) (acc ++ [(2, byt s p - 65)]) := by rw [hL, if_pos a3]; exact if_neg (by simp)
              rw [IntWalk.i64_in (byt s p - 65) (by omega)]
              refine oA_tok hn he (by omega) fun b3 H3 f3 he3 v3 => ?_
              simp -implicitDefEqProofs only [kz, kk0, kk1, kk2, kk3, ↓two_true, ↓two_false, oS_some, oM_some, mkv, aggAt, Nat.reduceLeDiff, Nat.reduceSub, Nat.reduceMul, implies_true, Nat.reduceEqDiff, reduceIte, Nat.reduceAdd, Nat.reduceBEq, reduceCtorEq, al54, ap25_25, bd54, bs25_0, bs25_1, cv5_3, fa54_0, (idx_str us9), ld54, ln9, st3, st54, h0, h5, h6]
              exact ⟨(f', p + 1, acc ++ [(2, byt s p - 65)], some ⟨b3, 0, none⟩, 2, ys ++ [.int .i64 (2), .int .i64 (byt s p - 65)]), by simp only; omega, by simp only [List.length_append, List.length_cons, List.length_nil, Nat.zero_add], rfl, by simp only; omega, by simp only; omega, by simp only [List.length_append, List.length_cons, List.length_nil]; omega, by simpa using f3, by rw [v3, hc, tokV_snoc], he3, hL2⟩
            · rw [if_neg (show ¬ (65 ≤ byt s p ∧ byt s p ≤ 90) from fun h => by simp [inB, h.1, h.2] at a1)] at hL
              refine two_intro (fun b1 => ?_) (fun b1 => ?_)
              · have hL2 : lexE s s.size 0 [] = lexE s f' (p + 1) (acc ++ [(4, 0)]) := by rw [hL, if_pos (eq_of_beq b1)]; exact if_neg (by simp)
                refine oA_tok hn he (by omega) fun b3 H3 f3 he3 v3 => ?_
                simp -implicitDefEqProofs only [kz, kk0, kk1, kk2, kk3, ↓two_true, ↓two_false, oS_some, oM_some, mkv, aggAt, Nat.reduceLeDiff, Nat.reduceSub, Nat.reduceMul, implies_true, Nat.reduceEqDiff, reduceIte, Nat.reduceAdd, Nat.reduceBEq, reduceCtorEq, al54, ap25_25, bd54, bs25_0, bs25_1, cv5_3, fa54_0, (idx_str us9), ld54, ln9, st3, st54, h0, h5, h6]
                exact ⟨(f', p + 1, acc ++ [(4, 0)], some ⟨b3, 0, none⟩, 2, ys ++ [.int .i64 (4), .int .i64 (0)]), by simp only; omega, by simp only [List.length_append, List.length_cons, List.length_nil, Nat.zero_add], rfl, by simp only; omega, by simp only; omega, by simp only [List.length_append, List.length_cons, List.length_nil]; omega, by simpa using f3, by rw [v3, hc, tokV_snoc], he3, hL2⟩
              rw [if_neg (beq_eq_false_iff_ne.1 b1)] at hL
              refine two_intro (fun b1 => ?_) (fun b1 => ?_)
              · have hL2 : lexE s s.size 0 [] = lexE s f' (p + 1) (acc ++ [(5, 0)]) := by rw [hL, if_pos (eq_of_beq b1)]; exact if_neg (by simp)
                refine oA_tok hn he (by omega) fun b3 H3 f3 he3 v3 => ?_
                simp -implicitDefEqProofs only [kz, kk0, kk1, kk2, kk3, ↓two_true, ↓two_false, oS_some, oM_some, mkv, aggAt, Nat.reduceLeDiff, Nat.reduceSub, Nat.reduceMul, implies_true, Nat.reduceEqDiff, reduceIte, Nat.reduceAdd, Nat.reduceBEq, reduceCtorEq, al54, ap25_25, bd54, bs25_0, bs25_1, cv5_3, fa54_0, (idx_str us9), ld54, ln9, st3, st54, h0, h5, h6]
                exact ⟨(f', p + 1, acc ++ [(5, 0)], some ⟨b3, 0, none⟩, 2, ys ++ [.int .i64 (5), .int .i64 (0)]), by simp only; omega, by simp only [List.length_append, List.length_cons, List.length_nil, Nat.zero_add], rfl, by simp only; omega, by simp only; omega, by simp only [List.length_append, List.length_cons, List.length_nil]; omega, by simpa using f3, by rw [v3, hc, tokV_snoc], he3, hL2⟩
              rw [if_neg (beq_eq_false_iff_ne.1 b1)] at hL
              refine two_intro (fun b1 => ?_) (fun b1 => ?_)
              · have hL2 : lexE s s.size 0 [] = lexE s f' (p + 1) (acc ++ [(6, 0)]) := by rw [hL, if_pos (eq_of_beq b1)]; exact if_neg (by simp)
                refine oA_tok hn he (by omega) fun b3 H3 f3 he3 v3 => ?_
                simp -implicitDefEqProofs only [kz, kk0, kk1, kk2, kk3, ↓two_true, ↓two_false, oS_some, oM_some, mkv, aggAt, Nat.reduceLeDiff, Nat.reduceSub, Nat.reduceMul, implies_true, Nat.reduceEqDiff, reduceIte, Nat.reduceAdd, Nat.reduceBEq, reduceCtorEq, al54, ap25_25, bd54, bs25_0, bs25_1, cv5_3, fa54_0, (idx_str us9), ld54, ln9, st3, st54, h0, h5, h6]
                exact ⟨(f', p + 1, acc ++ [(6, 0)], some ⟨b3, 0, none⟩, 2, ys ++ [.int .i64 (6), .int .i64 (0)]), by simp only; omega, by simp only [List.length_append, List.length_cons, List.length_nil, Nat.zero_add], rfl, by simp only; omega, by simp only; omega, by simp only [List.length_append, List.length_cons, List.length_nil]; omega, by simpa using f3, by rw [v3, hc, tokV_snoc], he3, hL2⟩
              rw [if_neg (beq_eq_false_iff_ne.1 b1)] at hL
              refine two_intro (fun b1 => ?_) (fun b1 => ?_)
              · have hL2 : lexE s s.size 0 [] = lexE s f' (p + 1) (acc ++ [(3, byt s p)]) := by rw [hL, if_pos b1]; exact if_neg (by simp)
                refine oA_tok hn he (by omega) fun b3 H3 f3 he3 v3 => ?_
                simp -implicitDefEqProofs only [kz, kk0, kk1, kk2, kk3, ↓two_true, ↓two_false, oS_some, oM_some, mkv, aggAt, Nat.reduceLeDiff, Nat.reduceSub, Nat.reduceMul, implies_true, Nat.reduceEqDiff, reduceIte, Nat.reduceAdd, Nat.reduceBEq, reduceCtorEq, al54, ap25_25, bd54, bs25_0, bs25_1, cv5_3, fa54_0, (idx_str us9), ld54, ln9, st3, st54, h0, h5, h6]
                exact ⟨(f', p + 1, acc ++ [(3, byt s p)], some ⟨b3, 0, none⟩, 2, ys ++ [.int .i64 (3), .int .i64 (byt s p)]), by simp only; omega, by simp only [List.length_append, List.length_cons, List.length_nil, Nat.zero_add], rfl, by simp only; omega, by simp only; omega, by simp only [List.length_append, List.length_cons, List.length_nil]; omega, by simpa using f3, by rw [v3, hc, tokV_snoc], he3, hL2⟩
              have hL2 : lexE s s.size 0 [] = ([], 8, p) := by rw [hL, if_neg (show ¬ hasS tkSigns (byt s p) = true by rw [b1]; exact Bool.false_ne_true)]; exact if_pos (show (8 : Int) ≠ 0 by decide)
              rw [hL2]
              exact ⟨⟨_, _, [], rfl, New.at0n (ks := kToken) rfl (by rw [gti]; rfl) (by have := ext_len he; omega), rfl⟩, app_ext he⟩
      · have dlt : decide ((p : Int) < s.size) = false := decide_eq_false (by omega)
        rw [lexE_stop hlt] at hL
        rw [hL]
        simp -implicitDefEqProofs only [kz, kk0, kk1, kk2, kk3, ↓two_true, ↓two_false, oS_some, oM_some, mkv, aggAt, Nat.reduceLeDiff, Nat.reduceSub, Nat.reduceMul, implies_true, Nat.reduceEqDiff, reduceIte, Nat.reduceAdd, Nat.reduceBEq, reduceCtorEq, al54, ap25_25, bd54, bs25_0, bs25_1, cv5_3, fa54_0, (idx_str us9), ld54, ln9, st3, st54, h0, h5, h6, dlt]
        exact ⟨⟨a, c, ys, rfl, hn, hc⟩, he⟩
theorem lexE_len {s : ByteArray} : ∀ (f p : Nat) (acc : List (Int × Int)), (lexE s f p acc).1.length ≤ acc.length + f
  | 0, p, acc => by simp [lexE]
  | f + 1, p, acc => by
    unfold lexE
    split
    · split
      · have := lexE_len (s := s) f (p + 1) acc; omega
      · split
        · simp
        · have := lexE_len (s := s) f (tokL s p).2.2.1 (acc ++ [((tokL s p).1, (tokL s p).2.1)])
          simp at this; omega
    · simp
theorem lexA_len {s : ByteArray} : (lexA s).1.length ≤ 300 := by
  unfold lexA
  split
  · simp
  · have := lexE_len (s := s) s.size 0 []; simp at this; omega
def bts (l : List Int) : List Value := l.map (.int .u8)
theorem bts_len {l : List Int} : (bts l).length = l.length := by simp [bts]
theorem bts_get {l : List Int} {i : Nat} (h : i < l.length) : (bts l)[i]? = some (.int .u8 l[i]) := by simp [bts, h]
/-- A slice of bytes that may be read. -/
def ByRow (H : AH) (v : Value) (l : List Int) : Prop :=
  (v = .slice none 0 0 ∧ l = []) ∨ ∃ b o cs, v = .slice (some ⟨b, o, none⟩) l.length 1 ∧ rd H b = some cs ∧ o + l.length ≤ cs.length ∧ (cs.drop o).take l.length = bts l
theorem ByRow.same {H H' : AH} {v : Value} {l : List Int} (h : ByRow H v l) (hs : ∀ b, blkOf v = some b → rd H' b = rd H b) : ByRow H' v l := by
  rcases h with h | ⟨b, o, cs, h1, h2, h3, h4⟩
  · exact .inl h
  · exact .inr ⟨b, o, cs, h1, by rw [hs b (by rw [h1]; rfl)]; exact h2, h3, h4⟩
theorem ByRow.ext {H H' : AH} {v : Value} {l : List Int} (h : ByRow H v l) (he : ∃ K, H' = H ++ K) : ByRow H' v l := by
  obtain ⟨K, rfl⟩ := he
  rcases h with h | ⟨b, o, cs, h1, h2, h3, h4⟩
  · exact .inl h
  · exact .inr ⟨b, o, cs, h1, by rw [rdl (by simp [h2]), h2], h3, h4⟩
theorem ByRow.op {H : AH} {v : Value} {l : List Int} (h : ByRow H v l) : ∃ a c, v = .slice a l.length c ∧ (0 < l.length → ∃ b o cs, a = some ⟨b, o, none⟩ ∧ c = 1 ∧ rd H b = some cs ∧ o + l.length ≤ cs.length ∧ ∀ i (hi : i < l.length), cs[o + i]? = some (.int .u8 l[i])) := by
  rcases h with ⟨rfl, rfl⟩ | ⟨b, o, cs, rfl, h1, h2, h3⟩
  · exact ⟨none, 0, rfl, fun h => by simp at h⟩
  · refine ⟨_, _, rfl, fun _ => ⟨b, o, cs, rfl, rfl, h1, h2, fun i hi => ?_⟩⟩
    have := bts_get hi
    rw [← h3, List.getElem?_take_of_lt hi, List.getElem?_drop] at this
    exact this
/-- A slice of bytes that is a whole block of its own, or nil. -/
def ByNew (H0 H : AH) (v : Value) (l : List Int) : Prop :=
  (v = .slice none 0 0 ∧ l = []) ∨ ∃ b, v = .slice (some ⟨b, 0, none⟩) l.length 1 ∧ H0.length ≤ b ∧ H[b]? = some ⟨bts l, .own⟩
theorem ByNew.row {H0 H : AH} {v : Value} {l : List Int} (h : ByNew H0 H v l) : ByRow H v l := by
  rcases h with h | ⟨b, h1, h2, h3⟩
  · exact .inl h
  · exact .inr ⟨b, 0, bts l, h1, rd_own h3, by rw [bts_len]; omega, by rw [List.drop_zero, List.take_of_length_le (by rw [bts_len]; exact Nat.le_refl _)]⟩
theorem ByNew.ext {H0 H H' : AH} {v : Value} {l : List Int} (h : ByNew H0 H v l) (he : ∃ K, H' = H ++ K) : ByNew H0 H' v l := by
  obtain ⟨K, rfl⟩ := he
  rcases h with h | ⟨b, h1, h2, h3⟩
  · exact .inl h
  · exact .inr ⟨b, h1, h2, gtl h3⟩
theorem ByNew.same {H0 H H' : AH} {v : Value} {l : List Int} (h : ByNew H0 H v l) (hs : ∀ b, blkOf v = some b → H'[b]? = H[b]?) : ByNew H0 H' v l := by
  rcases h with h | ⟨b, h1, h2, h3⟩
  · exact .inl h
  · exact .inr ⟨b, h1, h2, by rw [hs b (by rw [h1]; rfl)]; exact h3⟩
theorem ByNew.lt {H0 H : AH} {v : Value} {l : List Int} (h : ByNew H0 H v l) {b : Nat} (hb : blkOf v = some b) : H0.length ≤ b ∧ b < H.length := by
  rcases h with ⟨rfl, _⟩ | ⟨b', rfl, h2, h3⟩
  · simp [blkOf] at hb
  · simp [blkOf] at hb; subst hb; exact ⟨h2, (List.getElem?_eq_some_iff.1 h3).1⟩
theorem LX.bx {c : Option Nat} {H0 H : AH} {L : List Ix} {o : Nat} {cs : List Value} (h : LX c H0 H L) (i : Nat) (hi : L[i]? = some (.own (.box o cs))) : H[o]? = some ⟨cs, .own⟩ := by
  obtain ⟨B, h⟩ := h
  exact h.ok i _ hi
theorem LX.bxlt {c : Option Nat} {H0 H : AH} {L : List Ix} {o : Nat} {cs : List Value} (h : LX c H0 H L) (i : Nat) (hi : L[i]? = some (.own (.box o cs))) : H0.length ≤ o := by
  obtain ⟨B, h⟩ := h
  exact (h.fr i _ hi o rfl).2
theorem App.trans {H H1 H2 : AH} {v v1 v2 : Value} (h1 : App H v H1 v1) (h2 : App H1 v1 H2 v2) : App H v H2 v2 := by
  refine ⟨Nat.le_trans h1.len h2.len, fun b hb hn => ?_, fun b hb => ?_⟩
  · rw [h2.keep b (Nat.lt_of_lt_of_le hb h1.len) (fun e => ?_), h1.keep b hb hn]
    rcases h1.new b e with h | h
    · exact hn h
    · omega
  · rcases h2.new b hb with h | h
    · exact h1.new b h
    · exact .inr (Nat.le_trans h1.len h)
/-- The numbers of a row of bytes. -/
def byOk (l : List Int) : Prop := ∀ x ∈ l, 0 ≤ x ∧ x ≤ 255
theorem byOk.tail {l : List Int} (h : byOk l) : byOk l.tail := fun x hx => h x (List.mem_of_mem_tail hx)
theorem byOk.drop {l : List Int} (h : byOk l) (k : Nat) : byOk (l.drop k) := fun x hx => h x (List.mem_of_mem_drop hx)
structure RdSt (H : AH) (rb : Nat) (sl : Value) (bad : Bool) (r : List Int) : Prop where
  bx : H[rb]? = some ⟨[sl, .bool bad], .own⟩
  row : ByRow H sl r
  ne : blkOf sl ≠ some rb
structure Adv (H H' : AH) (rb : Nat) (sl : Value) (r : List Int) (sl' : Value) (bad' : Bool) (r' : List Int) : Prop where
  eq : H' = H.set rb ⟨[sl', .bool bad'], .own⟩
  row : ∀ G, ByRow G sl r → ByRow G sl' r'
  ne : blkOf sl ≠ some rb → blkOf sl' ≠ some rb
theorem Adv.st {H H' : AH} {rb : Nat} {sl sl' : Value} {bad bad' : Bool} {r r' : List Int} (a : Adv H H' rb sl r sl' bad' r') (h : RdSt H rb sl bad r) : RdSt H' rb sl' bad' r' := by
  have hl := (List.getElem?_eq_some_iff.1 h.bx).1
  have hn := a.ne h.ne
  refine ⟨by rw [a.eq, List.getElem?_set_self hl], (a.row H h.row).same fun b hb => ?_, hn⟩
  have : rb ≠ b := by rintro rfl; exact hn hb
  unfold rd
  rw [a.eq, List.getElem?_set_ne this]
theorem Adv.trans {H H1 H2 : AH} {rb : Nat} {sl sl1 sl2 : Value} {b1 b2 : Bool} {r r1 r2 : List Int} (a : Adv H H1 rb sl r sl1 b1 r1) (b : Adv H1 H2 rb sl1 r1 sl2 b2 r2) : Adv H H2 rb sl r sl2 b2 r2 :=
  ⟨by rw [b.eq, a.eq, list_set_set], fun G h => b.row G (a.row G h), fun h => b.ne (a.ne h)⟩

theorem LX.new {c : Option Nat} {H0 H : AH} {L : List Ix} {v : Value} {ks : List CK} {n : Nat} {xs : List Value} {V : List CV} (h : LX c H0 H L) (i : Nat) (hi : L[i]? = some (.own (.cmp (.row v ks n xs) V))) : New H0 H v ks n xs ∧ cvs H xs = V := by
  obtain ⟨B, h⟩ := h
  obtain ⟨h1, h2⟩ := h.ok i _ hi
  exact ⟨⟨h1, fun b hb => (h.fr i _ hi b hb).2⟩, h2⟩
/-- The reader goes on from a list of bytes. -/
structure RdOn (H : AH) (sl : Value) (r : List Int) : Prop where
  row : ByRow H sl r
  by' : byOk r
  len : r.length ≤ 1048576
theorem RdOn.lt {H : AH} {sl : Value} {r : List Int} (h : RdOn H sl r) : ∀ b, blkOf sl = some b → b < H.length := by
  intro b hb
  rcases h.row with ⟨rfl, _⟩ | ⟨b', o, cs, rfl, h1, _⟩
  · simp [blkOf] at hb
  · simp [blkOf] at hb; subst hb
    exact rd_lt (by rw [h1]; rfl)
theorem RdOn.st {H0 H : AH} {L : List Ix} {sl : Value} {r : List Int} {rb : Nat} {bad : Bool} (h : RdOn H0 sl r) (q : LX none H0 H L) (i : Nat) (hi : L[i]? = some (.own (.box rb [sl, .bool bad]))) : RdSt H rb sl bad r :=
  ⟨q.bx i hi, h.row.ext q.ext, fun e => by have := h.lt rb e; have := q.bxlt i hi; omega⟩
theorem strOf_go : ∀ {l : List Int} {r : ByteArray}, (l.foldl (fun r n => r.push (UInt8.ofNat n.toNat)) r).data.toList = r.data.toList ++ l.map fun n => UInt8.ofNat n.toNat
  | [], r => by simp
  | x :: t, r => by
    rw [List.foldl_cons, strOf_go, List.map_cons]
    have : (r.push (UInt8.ofNat x.toNat)).data.toList = r.data.toList ++ [UInt8.ofNat x.toNat] := by
      rw [ByteArray.push]
      simp
    rw [this, List.append_assoc]
    rfl
theorem strOf_list {l : List Int} : (strOf l).data.toList = l.map fun n => UInt8.ofNat n.toNat := by
  unfold strOf
  rw [strOf_go]
  rfl
theorem u8s_bts : ∀ {l : List Int}, u8s (bts l) = some l
  | [] => rfl
  | x :: t => by
    show (u8s (bts t)).map (x :: ·) = _
    rw [u8s_bts]; rfl
theorem ByRow.cells {H : AH} {v : Value} {l : List Int} (h : ByRow H v l) : aCells v 1 H.get = some (bts l) := by
  rcases h with ⟨rfl, rfl⟩ | ⟨b, o, cs, rfl, h1, h2, h3⟩
  · rfl
  · unfold rd rdB at h1
    show (match H.get b with | some ⟨cs, st⟩ => if st = St.dead then none else cellsAt cs o (l.length * 1) | none => none) = _
    unfold AH.get
    cases hb : H[b]? with
    | none => rw [hb] at h1; cases h1
    | some k =>
      rw [hb] at h1
      obtain ⟨ks, st⟩ := k
      cases st with
      | dead => cases h1
      | ro =>
        cases h1
        simp only [Nat.mul_one, cellsAt, if_pos h2, h3, reduceCtorEq, if_false]
      | own =>
        cases h1
        simp only [Nat.mul_one, cellsAt, if_pos h2, h3, reduceCtorEq, if_false]
theorem ByRow.str {P : Program} {H : AH} {v : Value} {l : List Int} {s d e : TypeId} (h : ByRow H v l) (hs : P.underlying s = some (.slice e)) (hd : P.underlying d = some .string) (he : P.underlying e = some (.int .u8)) : aConv P s d v H.get = some (.string (strOf l)) := by
  have h1 : scal1 v = false := by obtain ⟨a, c, rfl, -⟩ := h.op; rfl
  unfold aConv
  rw [if_neg (by rw [h1]; decide), hs, hd]
  simp only [he, h.cells, Option.bind_some, u8s_bts, Option.map_some]
theorem add_str {P : Program} {t : TypeId} {x y : Operand} {p q : ByteArray} : aBin P .add t x y (.string p) (.string q) = if p.size + q.size ≤ 9223372036854775807 then some (.string (p ++ q)) else none := by
  split
  · rename_i h; exact bin_str_add h
  · rename_i h
    have : (((p.size + q.size : Nat) : Int) > IntKind.i64.max) := by
      have : IntKind.i64.max = 9223372036854775807 := by decide
      omega
    simp only [aBin, scal, scal1, eqGuard, binOp, Op.stringOp, runP, told, pure, bind, Sem.bind, if_pos this]
    simp [runP, unsupported, Sem.bind]
def strs (N : Nat) (l : List Value) : Bool := l.all fun v => match v with | .string s => decide (s.size ≤ N) | _ => false
theorem strs_get {N : Nat} {l : List Value} {i : Nat} (h : strs N l = true) (hi : i < l.length) : ∃ s : ByteArray, l[i]? = some (.string s) ∧ s.size ≤ N := by
  have h1 := List.all_eq_true.1 h l[i] (List.getElem_mem hi)
  rw [List.getElem?_eq_getElem hi]
  cases hv : l[i] with
  | string s => rw [hv] at h1; exact ⟨s, rfl, of_decide_eq_true h1⟩
  | _ => rw [hv] at h1; cases h1
/-- A drawn text. -/
def StrA (cb : Nat) (H : AH) (N : Nat) (r : Value) (H' : AH) : Prop := (∃ s : ByteArray, r = .string s ∧ s.size ≤ N) ∧ Frm cb H H'

theorem l1Pick_gen {H : AH} {cb b n N : Nat} {cs : List Value} (hc : Cur H cb) (hb : H[b]? = some ⟨cs, .own⟩) (hbc : b ≠ cb) (hs : strs N cs = true) (hn : n = cs.length) (h0 : 0 < n) :
    CallsA Try.prog 94 #[.pointer (some ⟨cb, 0, none⟩), .slice (some ⟨b, 0, none⟩) n 1] H (StrA cb H N) := by
  refine w94 ?_
  unfold k94
  simp -implicitDefEqProofs only [kz, kk0, kk1, kk2, kk3, ↓two_true, ↓two_false, oS_some, oM_some, mkv, aggAt, Nat.reduceLeDiff, Nat.reduceSub, Nat.reduceMul, implies_true, Nat.reduceEqDiff, reduceIte, Nat.reduceAdd, Nat.reduceBEq, reduceCtorEq, ix98, ld9, ln98]
  refine (l1Below_ok hc).mono ?_
  rintro _ H1 ⟨⟨v, rfl, _, h2⟩, hf⟩
  obtain ⟨v0, v1⟩ := h2 (by omega)
  have hb1 := hf.at hb hbc
  obtain ⟨j, rfl⟩ : ∃ j : Nat, v = j := ⟨v.toNat, by omega⟩
  have hj : j < cs.length := by omega
  obtain ⟨s, hs1, hs2⟩ := strs_get hs hj
  simp -implicitDefEqProofs only [kz, kk0, kk1, kk2, kk3, ↓two_true, ↓two_false, oS_some, oM_some, mkv, aggAt, Nat.reduceLeDiff, Nat.reduceSub, Nat.reduceMul, implies_true, Nat.reduceEqDiff, reduceIte, Nat.reduceAdd, Nat.reduceBEq, reduceCtorEq, ix98, ld9, ln98, Int.toNat_natCast, Nat.mul_one, rd_own hb1, hs1]
  exact ⟨⟨by omega, by omega⟩, ⟨s, rfl, hs2⟩, hf⟩
set_option maxHeartbeats 4000000 in
theorem l1Pick_ok {H : AH} {cb n : Nat} {cs : List Value} (N : Nat) (hc : Cur H cb) (hs : strs N cs = true) (hn : n = cs.length) (h0 : 0 < n) :
    CallsA Try.prog 94 #[.pointer (some ⟨cb, 0, none⟩), .slice (some ⟨H.length, 0, none⟩) n 1] (H ++ [⟨cs, .own⟩]) (StrA cb H N) := by
  have hlt := hc.lt
  refine (l1Pick_gen hc.mono (by rw [gt0]; rfl) (by omega) hs hn h0).mono ?_
  rintro r H1 ⟨h1, h2⟩
  exact ⟨h1, (Frm.refl hc).app.trans h2⟩

set_option maxHeartbeats 4000000 in
theorem l8DrawFun_ok {H : AH} {cb : Nat} {two' : Bool} (hc : Cur H cb) : CallsA Try.prog 95 #[.pointer (some ⟨cb, 0, none⟩), .bool two'] H (StrA cb H 5) := by
  refine w95 ?_
  unfold k95
  simp -implicitDefEqProofs only [kz, kk0, kk1, kk2, kk3, ↓two_true, ↓two_false, oS_some, oM_some, mkv, aggAt, Nat.reduceLeDiff, Nat.reduceSub, Nat.reduceMul, implies_true, Nat.reduceEqDiff, reduceIte, Nat.reduceAdd, Nat.reduceBEq, reduceCtorEq, bs98_2, bs98_6, bs98_9, bs98_10, bs98_11]
  refine CallsA.mono (l1Pick_ok 1 hc (by rfl) rfl (by decide)) ?_
  rintro _ H1 ⟨⟨s, rfl, hs⟩, hf⟩
  cases two' with
  | true =>
    simp -implicitDefEqProofs only [kz, kk0, kk1, kk2, kk3, ↓two_true, ↓two_false, oS_some, oM_some, mkv, aggAt, Nat.reduceLeDiff, Nat.reduceSub, Nat.reduceMul, implies_true, Nat.reduceEqDiff, reduceIte, Nat.reduceAdd, Nat.reduceBEq, reduceCtorEq, bs98_2, bs98_6, bs98_9, bs98_10, bs98_11, add_str]
    refine (l1Once_ok hf.cur).mono ?_
    rintro _ H2 ⟨⟨b, rfl⟩, hg⟩
    have hf := hf.trans hg
    simp -implicitDefEqProofs only [kz, kk0, kk1, kk2, kk3, ↓two_true, ↓two_false, oS_some, oM_some, mkv, aggAt, Nat.reduceLeDiff, Nat.reduceSub, Nat.reduceMul, implies_true, Nat.reduceEqDiff, reduceIte, Nat.reduceAdd, Nat.reduceBEq, reduceCtorEq, bs98_2, bs98_6, bs98_9, bs98_10, bs98_11, add_str]
    refine two_intro (fun _ => ?_) (fun _ => ?_)
    · refine ⟨by show 2 + s.size ≤ _; omega, ⟨_, rfl, ?_⟩, hf⟩
      rw [ByteArray.size_append]; show 2 + s.size ≤ _; omega
    · refine (l1Once_ok hf.cur).mono ?_
      rintro _ H3 ⟨⟨b3, rfl⟩, hg⟩
      have hf := hf.trans hg
      simp -implicitDefEqProofs only [kz, kk0, kk1, kk2, kk3, ↓two_true, ↓two_false, oS_some, oM_some, mkv, aggAt, Nat.reduceLeDiff, Nat.reduceSub, Nat.reduceMul, implies_true, Nat.reduceEqDiff, reduceIte, Nat.reduceAdd, Nat.reduceBEq, reduceCtorEq, bs98_2, bs98_6, bs98_9, bs98_10, bs98_11, add_str]
      refine two_intro (fun _ => ?_) (fun _ => ?_)
      · refine ⟨by show s.size + 3 ≤ _; omega, ?_⟩
        refine CallsA.mono (l1Pick_ok 1 hf.cur (by rfl) rfl (by decide)) ?_
        rintro _ H4 ⟨⟨z, rfl, hz⟩, hg⟩
        have hf := hf.trans hg
        have h1 : (s ++ ⟨#[32, 46, 32]⟩ : ByteArray).size = s.size + 3 := by rw [ByteArray.size_append]; rfl
        simp -implicitDefEqProofs only [kz, kk0, kk1, kk2, kk3, ↓two_true, ↓two_false, oS_some, oM_some, mkv, aggAt, Nat.reduceLeDiff, Nat.reduceSub, Nat.reduceMul, implies_true, Nat.reduceEqDiff, reduceIte, Nat.reduceAdd, Nat.reduceBEq, reduceCtorEq, bs98_2, bs98_6, bs98_9, bs98_10, bs98_11, add_str]
        refine ⟨by omega, ⟨_, rfl, ?_⟩, hf⟩
        rw [ByteArray.size_append]; omega
      · refine (l1Once_ok hf.cur).mono ?_
        rintro _ H4 ⟨⟨b4, rfl⟩, hg⟩
        have hf := hf.trans hg
        simp -implicitDefEqProofs only [kz, kk0, kk1, kk2, kk3, ↓two_true, ↓two_false, oS_some, oM_some, mkv, aggAt, Nat.reduceLeDiff, Nat.reduceSub, Nat.reduceMul, implies_true, Nat.reduceEqDiff, reduceIte, Nat.reduceAdd, Nat.reduceBEq, reduceCtorEq, bs98_2, bs98_6, bs98_9, bs98_10, bs98_11, add_str]
        refine two_intro (fun _ => ?_) (fun _ => ?_)
        · exact ⟨⟨_, rfl, by omega⟩, hf⟩
        · refine CallsA.mono (l1Pick_ok 1 hf.cur (by rfl) rfl (by decide)) ?_
          rintro _ H5 ⟨⟨z, rfl, hz⟩, hg⟩
          simp -implicitDefEqProofs only [kz, kk0, kk1, kk2, kk3, ↓two_true, ↓two_false, oS_some, oM_some, mkv, aggAt, Nat.reduceLeDiff, Nat.reduceSub, Nat.reduceMul, implies_true, Nat.reduceEqDiff, reduceIte, Nat.reduceAdd, Nat.reduceBEq, reduceCtorEq, bs98_2, bs98_6, bs98_9, bs98_10, bs98_11, add_str]
          exact ⟨⟨_, rfl, by omega⟩, hf.trans hg⟩
  | false =>
    simp -implicitDefEqProofs only [kz, kk0, kk1, kk2, kk3, ↓two_true, ↓two_false, oS_some, oM_some, mkv, aggAt, Nat.reduceLeDiff, Nat.reduceSub, Nat.reduceMul, implies_true, Nat.reduceEqDiff, reduceIte, Nat.reduceAdd, Nat.reduceBEq, reduceCtorEq, bs98_2, bs98_6, bs98_9, bs98_10, bs98_11, add_str]
    refine (l1Once_ok hf.cur).mono ?_
    rintro _ H2 ⟨⟨b, rfl⟩, hg⟩
    have hf := hf.trans hg
    simp -implicitDefEqProofs only [kz, kk0, kk1, kk2, kk3, ↓two_true, ↓two_false, oS_some, oM_some, mkv, aggAt, Nat.reduceLeDiff, Nat.reduceSub, Nat.reduceMul, implies_true, Nat.reduceEqDiff, reduceIte, Nat.reduceAdd, Nat.reduceBEq, reduceCtorEq, bs98_2, bs98_6, bs98_9, bs98_10, bs98_11, add_str]
    refine two_intro (fun _ => ?_) (fun _ => ?_)
    · refine ⟨by show s.size + 1 ≤ _; omega, ?_⟩
      refine CallsA.mono (l1Pick_ok 1 hf.cur (by rfl) rfl (by decide)) ?_
      rintro _ H4 ⟨⟨z, rfl, hz⟩, hg⟩
      have hf := hf.trans hg
      have h1 : (s ++ ⟨#[32]⟩ : ByteArray).size = s.size + 1 := by rw [ByteArray.size_append]; rfl
      simp -implicitDefEqProofs only [kz, kk0, kk1, kk2, kk3, ↓two_true, ↓two_false, oS_some, oM_some, mkv, aggAt, Nat.reduceLeDiff, Nat.reduceSub, Nat.reduceMul, implies_true, Nat.reduceEqDiff, reduceIte, Nat.reduceAdd, Nat.reduceBEq, reduceCtorEq, bs98_2, bs98_6, bs98_9, bs98_10, bs98_11, add_str]
      refine ⟨by omega, ⟨_, rfl, ?_⟩, hf⟩
      rw [ByteArray.size_append]; omega
    · refine CallsA.mono (l1Pick_ok 1 hf.cur (by rfl) rfl (by decide)) ?_
      rintro _ H5 ⟨⟨z, rfl, hz⟩, hg⟩
      simp -implicitDefEqProofs only [kz, kk0, kk1, kk2, kk3, ↓two_true, ↓two_false, oS_some, oM_some, mkv, aggAt, Nat.reduceLeDiff, Nat.reduceSub, Nat.reduceMul, implies_true, Nat.reduceEqDiff, reduceIte, Nat.reduceAdd, Nat.reduceBEq, reduceCtorEq, bs98_2, bs98_6, bs98_9, bs98_10, bs98_11, add_str]
      exact ⟨⟨_, rfl, by omega⟩, hf.trans hg⟩

theorem conv1 {H : AH} {x : Int} : aConv Try.prog 22 9 (.slice (some ⟨H.length, 0, none⟩) 1 1) (H ++ [⟨[.int .u8 x], .own⟩] : AH).get = some (.string (strOf [x])) :=
  ByRow.str (H := H ++ [⟨[.int .u8 x], .own⟩]) (l := [x]) (e := 5) (.inr ⟨H.length, 0, [.int .u8 x], rfl, rd_own (by rw [gt0]; rfl), by simp, rfl⟩) (by kernel_rfl) (by kernel_rfl) (by kernel_rfl)
theorem strOf_size {l : List Int} : (strOf l).size = l.length := by
  have h := congrArg List.length (strOf_list (l := l))
  rw [Array.length_toList, List.length_map] at h
  exact h
theorem l8Digits_pos {H : AH} {n : Int} (h : 0 ≤ n ∧ n ≤ 1000000000000) : CallsA Try.prog 105 #[.int .i64 n] H fun r H' => (∃ s : ByteArray, r = .string s ∧ s.size ≤ 13) ∧ ∃ K, H' = H ++ K := by
  have d1 : decide (n < 0) = false := decide_eq_false (by omega)
  refine w105 ?_
  unfold k105
  simp -implicitDefEqProofs only [kz, kk0, kk1, kk2, kk3, ↓two_true, ↓two_false, oS_some, oM_some, mkv, aggAt, Nat.reduceLeDiff, Nat.reduceSub, Nat.reduceMul, implies_true, Nat.reduceEqDiff, reduceIte, Nat.reduceAdd, Nat.reduceBEq, reduceCtorEq, bs22_1, cv3_5, d1]
  refine two_intro (fun _ => ⟨⟨_, rfl, by decide⟩, [], by simp⟩) (fun h0 => ?_)
  have h0 : n ≠ 0 := by simpa using h0
  refine rW_loop (σ := Nat × Nat) (fun (m, k) tm H' => tm 0 = .int .i64 m ∧ (∃ s : ByteArray, tm 3 = .string s ∧ s.size = k) ∧ k ≤ 13 ∧ m < 10 ^ (13 - k) ∧ ∃ K, H' = H ++ K) (fun x => x.1) (n.toNat, 0) ?_ ?_
  · refine ⟨?_, ⟨_, rfl, rfl⟩, by omega, ?_, [], by simp⟩
    · simp -implicitDefEqProofs only [kz, kk0, kk1, kk2, kk3, ↓two_true, ↓two_false, oS_some, oM_some, mkv, aggAt, Nat.reduceLeDiff, Nat.reduceSub, Nat.reduceMul, implies_true, Nat.reduceEqDiff, reduceIte, Nat.reduceAdd, Nat.reduceBEq, reduceCtorEq, bs22_1, cv3_5]
      congr 1; omega
    · have : (10 : Nat) ^ (13 - 0) = 10000000000000 := by decide
      omega
  · rintro ⟨m, k⟩ tm H1 ⟨t0, ⟨s, t3, hk⟩, hk13, hm, he⟩
    simp -implicitDefEqProofs only [kz, kk0, kk1, kk2, kk3, ↓two_true, ↓two_false, oS_some, oM_some, mkv, aggAt, Nat.reduceLeDiff, Nat.reduceSub, Nat.reduceMul, implies_true, Nat.reduceEqDiff, reduceIte, Nat.reduceAdd, Nat.reduceBEq, reduceCtorEq, bs22_1, cv3_5, t0, t3]
    refine two_intro (fun u => ?_) (fun u => ?_)
    · have hm0 : 0 < m := by have := of_decide_eq_true u; omega
      have hk12 : k < 13 := by
        rcases Nat.lt_or_ge k 13 with e | e
        · exact e
        · have : k = 13 := by omega
          subst this
          simp at hm; omega
      have hm13 : (10 : Nat) ^ (13 - k) ≤ 10 ^ 13 := Nat.pow_le_pow_right (by decide) (by omega)
      have h13 : (10 : Nat) ^ 13 = 10000000000000 := by decide
      have r1 : (m : Int).tmod 10 = ((m % 10 : Nat) : Int) := by rw [Int.tmod_eq_emod_of_nonneg (by omega)]; omega
      have q1 : (m : Int).tdiv 10 = ((m / 10 : Nat) : Int) := by rw [Int.tdiv_eq_ediv_of_nonneg (by omega)]; omega
      simp -implicitDefEqProofs only [kz, kk0, kk1, kk2, kk3, ↓two_true, ↓two_false, oS_some, oM_some, mkv, aggAt, Nat.reduceLeDiff, Nat.reduceSub, Nat.reduceMul, implies_true, Nat.reduceEqDiff, reduceIte, Nat.reduceAdd, Nat.reduceBEq, reduceCtorEq, bs22_1, cv3_5, t0, t3, bin_rem (show (10 : Int) ≠ 0 by decide), bin_quo (show (10 : Int) ≠ 0 by decide), r1, q1, conv1, add_str]
      have z1 : ∀ x : Int, (strOf [x]).size = 1 := fun x => strOf_size
      refine ⟨by rw [z1]; omega, (m / 10, k + 1), by simp only; omega, ?_, ⟨_, rfl, by rw [ByteArray.size_append, z1]; omega⟩, hk12, ?_, app_ext he⟩
      · rw [IntWalk.i64_in _ (by omega)]
      · have e1 : 13 - k = (13 - (k + 1)) + 1 := by omega
        rw [e1, Nat.pow_succ] at hm
        simp only
        generalize (10 : Nat) ^ (13 - (k + 1)) = w at *
        omega
    · try simp -implicitDefEqProofs only [kz, kk0, kk1, kk2, kk3, ↓two_true, ↓two_false, oS_some, oM_some, mkv, aggAt, Nat.reduceLeDiff, Nat.reduceSub, Nat.reduceMul, implies_true, Nat.reduceEqDiff, reduceIte, Nat.reduceAdd, Nat.reduceBEq, reduceCtorEq, bs22_1, cv3_5, t0, t3]
      exact ⟨⟨s, rfl, by omega⟩, he⟩
set_option maxHeartbeats 4000000 in
theorem l8Digits_ok {H : AH} {n : Int} (h : -1000000000000 ≤ n ∧ n ≤ 1000000000000) : CallsA Try.prog 105 #[.int .i64 n] H fun r H' => (∃ s : ByteArray, r = .string s ∧ s.size ≤ 14) ∧ ∃ K, H' = H ++ K := by
  rcases Int.lt_or_le n 0 with hn | hn
  · have d1 : decide (n < 0) = true := decide_eq_true hn
    have w1 : IntKind.i64.wrap (0 - n) = 0 - n := IntWalk.i64_in _ (by omega)
    refine w105 ?_
    unfold k105
    simp -implicitDefEqProofs only [kz, kk0, kk1, kk2, kk3, ↓two_true, ↓two_false, oS_some, oM_some, mkv, aggAt, Nat.reduceLeDiff, Nat.reduceSub, Nat.reduceMul, implies_true, Nat.reduceEqDiff, reduceIte, Nat.reduceAdd, Nat.reduceBEq, reduceCtorEq, bs22_1, cv3_5, d1, w1]
    refine (l8Digits_pos (by omega)).mono ?_
    rintro _ H1 ⟨⟨s, rfl, hs⟩, he⟩
    simp -implicitDefEqProofs only [kz, kk0, kk1, kk2, kk3, ↓two_true, ↓two_false, oS_some, oM_some, mkv, aggAt, Nat.reduceLeDiff, Nat.reduceSub, Nat.reduceMul, implies_true, Nat.reduceEqDiff, reduceIte, Nat.reduceAdd, Nat.reduceBEq, reduceCtorEq, bs22_1, cv3_5, add_str]
    refine ⟨by show 1 + s.size ≤ _; omega, ⟨_, rfl, ?_⟩, he⟩
    rw [ByteArray.size_append]; show 1 + s.size ≤ _; omega
  · refine (l8Digits_pos ⟨hn, h.2⟩).mono ?_
    rintro _ H1 ⟨⟨s, rfl, hs⟩, he⟩
    exact ⟨⟨s, rfl, by omega⟩, he⟩

set_option maxHeartbeats 4000000 in
theorem l8Op_step {cb d : Nat} {M M1 : Nat} (hM : 60 ≤ M) (h1 : d ≠ 0 → M1 + 4 ≤ M) (hM2 : M ≤ 1000000)
    (ih : d ≠ 0 → ∀ {H : AH}, Cur H cb → CallsA Try.prog 69 #[.pointer (some ⟨cb, 0, none⟩), .int .i64 ((d : Int) - 1)] H (StrA cb H M1)) {H : AH} (hc : Cur H cb) (hd : d ≤ 100) :
    CallsA Try.prog 93 #[.pointer (some ⟨cb, 0, none⟩), .int .i64 d] H (StrA cb H M) := by
  have wd : IntKind.i64.wrap ((d : Int) - 1) = (d : Int) - 1 := IntWalk.i64_in _ (by omega)
  refine w93 ?_
  unfold k93
  have hf := Frm.refl hc
  by_cases hd0 : d = 0
  · have dd : decide ((d : Int) > 0) = false := decide_eq_false (by omega)
    simp -implicitDefEqProofs only [kz, kk0, kk1, kk2, kk3, ↓two_true, ↓two_false, oS_some, oM_some, mkv, aggAt, Nat.reduceLeDiff, Nat.reduceSub, Nat.reduceMul, implies_true, Nat.reduceEqDiff, reduceIte, Nat.reduceAdd, Nat.reduceBEq, reduceCtorEq, bs98_3, bs98_6, add_str, wd, dd]
    refine (l1Once_ok hf.cur).mono ?_
    rintro _ H2 ⟨⟨b2, rfl⟩, hg⟩
    have hf := hf.trans hg
    simp -implicitDefEqProofs only [kz, kk0, kk1, kk2, kk3, ↓two_true, ↓two_false, oS_some, oM_some, mkv, aggAt, Nat.reduceLeDiff, Nat.reduceSub, Nat.reduceMul, implies_true, Nat.reduceEqDiff, reduceIte, Nat.reduceAdd, Nat.reduceBEq, reduceCtorEq, bs98_3, bs98_6, add_str]
    refine two_intro (fun _ => ?_) (fun _ => ?_)
    · refine CallsA.mono (l1Pick_ok 3 hf.cur (by rfl) rfl (by decide)) ?_
      rintro _ H4 ⟨⟨z, rfl, hz⟩, hg⟩
      simp -implicitDefEqProofs only [kz, kk0, kk1, kk2, kk3, ↓two_true, ↓two_false, oS_some, oM_some, mkv, aggAt, Nat.reduceLeDiff, Nat.reduceSub, Nat.reduceMul, implies_true, Nat.reduceEqDiff, reduceIte, Nat.reduceAdd, Nat.reduceBEq, reduceCtorEq, bs98_3, bs98_6, add_str]
      exact ⟨⟨_, rfl, by omega⟩, hf.trans hg⟩
    · refine (l1DrawNum_ok hf.cur).mono ?_
      rintro _ H3 ⟨⟨n, rfl, hn⟩, hg⟩
      have hf := hf.trans hg
      have hn' : -1000000000000 ≤ n ∧ n ≤ 1000000000000 := by simpa [numOk, inB] using hn
      simp -implicitDefEqProofs only [kz, kk0, kk1, kk2, kk3, ↓two_true, ↓two_false, oS_some, oM_some, mkv, aggAt, Nat.reduceLeDiff, Nat.reduceSub, Nat.reduceMul, implies_true, Nat.reduceEqDiff, reduceIte, Nat.reduceAdd, Nat.reduceBEq, reduceCtorEq, bs98_3, bs98_6, add_str]
      refine (l8Digits_ok hn').mono ?_
      rintro _ H4 ⟨⟨s, rfl, hs⟩, K4, rfl⟩
      have hf := hf.app (L := K4)
      simp -implicitDefEqProofs only [kz, kk0, kk1, kk2, kk3, ↓two_true, ↓two_false, oS_some, oM_some, mkv, aggAt, Nat.reduceLeDiff, Nat.reduceSub, Nat.reduceMul, implies_true, Nat.reduceEqDiff, reduceIte, Nat.reduceAdd, Nat.reduceBEq, reduceCtorEq, bs98_3, bs98_6, add_str]
      refine rW_loop (σ := Nat) (fun i tm H' => tm 0 = .pointer (some ⟨cb, 0, none⟩) ∧ (∃ s : ByteArray, tm 5 = .string s ∧ s.size ≤ 14 + 15 * i) ∧ tm 6 = .int .i64 i ∧ i ≤ 3 ∧ Frm cb H H') (fun i => 3 - i) 0 ?_ ?_
      · exact ⟨rfl, ⟨s, rfl, by omega⟩, rfl, by omega, hf⟩
      · clear hf hg hs hn hn'
        rintro i tm H5 ⟨t0, ⟨s, t5, hs⟩, t6, hi, hf⟩
        simp -implicitDefEqProofs only [kz, kk0, kk1, kk2, kk3, ↓two_true, ↓two_false, oS_some, oM_some, mkv, aggAt, Nat.reduceLeDiff, Nat.reduceSub, Nat.reduceMul, implies_true, Nat.reduceEqDiff, reduceIte, Nat.reduceAdd, Nat.reduceBEq, reduceCtorEq, bs98_3, bs98_6, add_str, t0, t5, t6]
        refine (l1Below_ok hf.cur).mono ?_
        rintro _ H6 ⟨⟨v, rfl, -, hv⟩, hg⟩
        have hv := hv (by decide)
        have hf := hf.trans hg
        simp -implicitDefEqProofs only [kz, kk0, kk1, kk2, kk3, ↓two_true, ↓two_false, oS_some, oM_some, mkv, aggAt, Nat.reduceLeDiff, Nat.reduceSub, Nat.reduceMul, implies_true, Nat.reduceEqDiff, reduceIte, Nat.reduceAdd, Nat.reduceBEq, reduceCtorEq, bs98_3, bs98_6, add_str, t0, t5, t6]
        refine two_intro (fun u => ?_) (fun u => ?_)
        · have hi3 : i < 3 := by have := of_decide_eq_true u; omega
          refine ⟨by show s.size + 1 ≤ _; omega, ?_⟩
          have e1 : (s ++ ⟨#[32]⟩ : ByteArray).size = s.size + 1 := by rw [ByteArray.size_append]; rfl
          generalize (s ++ ⟨#[32]⟩ : ByteArray) = s1 at *
          refine (l1Below_ok hf.cur).mono ?_
          rintro _ H7 ⟨⟨x, rfl, -, hx⟩, hg⟩
          have hx := hx (by decide)
          have hf := hf.trans hg
          have wx : IntKind.i64.wrap (x - 2) = x - 2 := IntWalk.i64_in _ (by omega)
          simp -implicitDefEqProofs only [kz, kk0, kk1, kk2, kk3, ↓two_true, ↓two_false, oS_some, oM_some, mkv, aggAt, Nat.reduceLeDiff, Nat.reduceSub, Nat.reduceMul, implies_true, Nat.reduceEqDiff, reduceIte, Nat.reduceAdd, Nat.reduceBEq, reduceCtorEq, bs98_3, bs98_6, add_str, t0, t5, t6, wx]
          refine (l8Digits_ok (by omega)).mono ?_
          rintro _ H8 ⟨⟨z, rfl, hz⟩, K8, rfl⟩
          have hf := hf.app (L := K8)
          have wi : IntKind.i64.wrap ((i : Int) + 1) = ((i + 1 : Nat) : Int) := IntWalk.i64_in ((i : Int) + 1) (by omega)
          simp -implicitDefEqProofs only [kz, kk0, kk1, kk2, kk3, ↓two_true, ↓two_false, oS_some, oM_some, mkv, aggAt, Nat.reduceLeDiff, Nat.reduceSub, Nat.reduceMul, implies_true, Nat.reduceEqDiff, reduceIte, Nat.reduceAdd, Nat.reduceBEq, reduceCtorEq, bs98_3, bs98_6, add_str, t0, t5, t6, wi]
          refine ⟨by omega, i + 1, by omega, ?_⟩
          first | exact ⟨⟨_, rfl, by rw [ByteArray.size_append]; omega⟩, rfl, hi3, hf⟩ | exact ⟨⟨_, rfl, by rw [ByteArray.size_append]; omega⟩, hi3, hf⟩
        · try simp -implicitDefEqProofs only [kz, kk0, kk1, kk2, kk3, ↓two_true, ↓two_false, oS_some, oM_some, mkv, aggAt, Nat.reduceLeDiff, Nat.reduceSub, Nat.reduceMul, implies_true, Nat.reduceEqDiff, reduceIte, Nat.reduceAdd, Nat.reduceBEq, reduceCtorEq, bs98_3, bs98_6, add_str, t0, t5, t6]
          refine (l1Once_ok hf.cur).mono ?_
          rintro _ H7 ⟨⟨b7, rfl⟩, hg⟩
          have hf := hf.trans hg
          simp -implicitDefEqProofs only [kz, kk0, kk1, kk2, kk3, ↓two_true, ↓two_false, oS_some, oM_some, mkv, aggAt, Nat.reduceLeDiff, Nat.reduceSub, Nat.reduceMul, implies_true, Nat.reduceEqDiff, reduceIte, Nat.reduceAdd, Nat.reduceBEq, reduceCtorEq, bs98_3, bs98_6, add_str, t0, t5, t6]
          refine two_intro (fun _ => ?_) (fun _ => ?_)
          · refine CallsA.mono (l1Pick_ok 3 hf.cur (by rfl) rfl (by decide)) ?_
            rintro _ H8 ⟨⟨z, rfl, hz⟩, hg⟩
            simp -implicitDefEqProofs only [kz, kk0, kk1, kk2, kk3, ↓two_true, ↓two_false, oS_some, oM_some, mkv, aggAt, Nat.reduceLeDiff, Nat.reduceSub, Nat.reduceMul, implies_true, Nat.reduceEqDiff, reduceIte, Nat.reduceAdd, Nat.reduceBEq, reduceCtorEq, bs98_3, bs98_6, add_str, t0, t5, t6]
            exact ⟨⟨_, rfl, by omega⟩, hf.trans hg⟩
          · exact ⟨⟨s, rfl, by omega⟩, hf⟩
  · have dd : decide ((d : Int) > 0) = true := decide_eq_true (by omega)
    simp -implicitDefEqProofs only [kz, kk0, kk1, kk2, kk3, ↓two_true, ↓two_false, oS_some, oM_some, mkv, aggAt, Nat.reduceLeDiff, Nat.reduceSub, Nat.reduceMul, implies_true, Nat.reduceEqDiff, reduceIte, Nat.reduceAdd, Nat.reduceBEq, reduceCtorEq, bs98_3, bs98_6, add_str, wd, dd]
    refine (l1Once_ok hf.cur).mono ?_
    rintro _ H1 ⟨⟨b1, rfl⟩, hg⟩
    have hf := hf.trans hg
    simp -implicitDefEqProofs only [kz, kk0, kk1, kk2, kk3, ↓two_true, ↓two_false, oS_some, oM_some, mkv, aggAt, Nat.reduceLeDiff, Nat.reduceSub, Nat.reduceMul, implies_true, Nat.reduceEqDiff, reduceIte, Nat.reduceAdd, Nat.reduceBEq, reduceCtorEq, bs98_3, bs98_6, add_str, wd]
    refine two_intro (fun _ => ?_) (fun _ => ?_)
    · refine (ih hd0 hf.cur).mono ?_
      rintro _ H2 ⟨⟨s, rfl, hs⟩, hg⟩
      have hm := h1 hd0
      simp -implicitDefEqProofs only [kz, kk0, kk1, kk2, kk3, ↓two_true, ↓two_false, oS_some, oM_some, mkv, aggAt, Nat.reduceLeDiff, Nat.reduceSub, Nat.reduceMul, implies_true, Nat.reduceEqDiff, reduceIte, Nat.reduceAdd, Nat.reduceBEq, reduceCtorEq, bs98_3, bs98_6, add_str, wd]
      have e1 : (⟨#[40, 32]⟩ ++ s : ByteArray).size = s.size + 2 := by rw [ByteArray.size_append]; show 2 + s.size = _; omega
      refine ⟨by show 2 + s.size ≤ _; omega, ⟨by rw [e1]; show s.size + 2 + 2 ≤ _; omega, ⟨_, rfl, ?_⟩, hf.trans hg⟩⟩
      rw [ByteArray.size_append, e1]; show s.size + 2 + 2 ≤ _; omega
    · refine (l1Once_ok hf.cur).mono ?_
      rintro _ H2 ⟨⟨b2, rfl⟩, hg⟩
      have hf := hf.trans hg
      simp -implicitDefEqProofs only [kz, kk0, kk1, kk2, kk3, ↓two_true, ↓two_false, oS_some, oM_some, mkv, aggAt, Nat.reduceLeDiff, Nat.reduceSub, Nat.reduceMul, implies_true, Nat.reduceEqDiff, reduceIte, Nat.reduceAdd, Nat.reduceBEq, reduceCtorEq, bs98_3, bs98_6, add_str]
      refine two_intro (fun _ => ?_) (fun _ => ?_)
      · refine CallsA.mono (l1Pick_ok 3 hf.cur (by rfl) rfl (by decide)) ?_
        rintro _ H4 ⟨⟨z, rfl, hz⟩, hg⟩
        simp -implicitDefEqProofs only [kz, kk0, kk1, kk2, kk3, ↓two_true, ↓two_false, oS_some, oM_some, mkv, aggAt, Nat.reduceLeDiff, Nat.reduceSub, Nat.reduceMul, implies_true, Nat.reduceEqDiff, reduceIte, Nat.reduceAdd, Nat.reduceBEq, reduceCtorEq, bs98_3, bs98_6, add_str]
        exact ⟨⟨_, rfl, by omega⟩, hf.trans hg⟩
      · refine (l1DrawNum_ok hf.cur).mono ?_
        rintro _ H3 ⟨⟨n, rfl, hn⟩, hg⟩
        have hf := hf.trans hg
        have hn' : -1000000000000 ≤ n ∧ n ≤ 1000000000000 := by simpa [numOk, inB] using hn
        simp -implicitDefEqProofs only [kz, kk0, kk1, kk2, kk3, ↓two_true, ↓two_false, oS_some, oM_some, mkv, aggAt, Nat.reduceLeDiff, Nat.reduceSub, Nat.reduceMul, implies_true, Nat.reduceEqDiff, reduceIte, Nat.reduceAdd, Nat.reduceBEq, reduceCtorEq, bs98_3, bs98_6, add_str]
        refine (l8Digits_ok hn').mono ?_
        rintro _ H4 ⟨⟨s, rfl, hs⟩, K4, rfl⟩
        have hf := hf.app (L := K4)
        simp -implicitDefEqProofs only [kz, kk0, kk1, kk2, kk3, ↓two_true, ↓two_false, oS_some, oM_some, mkv, aggAt, Nat.reduceLeDiff, Nat.reduceSub, Nat.reduceMul, implies_true, Nat.reduceEqDiff, reduceIte, Nat.reduceAdd, Nat.reduceBEq, reduceCtorEq, bs98_3, bs98_6, add_str]
        refine rW_loop (σ := Nat) (fun i tm H' => tm 0 = .pointer (some ⟨cb, 0, none⟩) ∧ (∃ s : ByteArray, tm 5 = .string s ∧ s.size ≤ 14 + 15 * i) ∧ tm 6 = .int .i64 i ∧ i ≤ 3 ∧ Frm cb H H') (fun i => 3 - i) 0 ?_ ?_
        · exact ⟨rfl, ⟨s, rfl, by omega⟩, rfl, by omega, hf⟩
        · clear hf hg hs hn hn'
          rintro i tm H5 ⟨t0, ⟨s, t5, hs⟩, t6, hi, hf⟩
          simp -implicitDefEqProofs only [kz, kk0, kk1, kk2, kk3, ↓two_true, ↓two_false, oS_some, oM_some, mkv, aggAt, Nat.reduceLeDiff, Nat.reduceSub, Nat.reduceMul, implies_true, Nat.reduceEqDiff, reduceIte, Nat.reduceAdd, Nat.reduceBEq, reduceCtorEq, bs98_3, bs98_6, add_str, t0, t5, t6]
          refine (l1Below_ok hf.cur).mono ?_
          rintro _ H6 ⟨⟨v, rfl, -, hv⟩, hg⟩
          have hv := hv (by decide)
          have hf := hf.trans hg
          simp -implicitDefEqProofs only [kz, kk0, kk1, kk2, kk3, ↓two_true, ↓two_false, oS_some, oM_some, mkv, aggAt, Nat.reduceLeDiff, Nat.reduceSub, Nat.reduceMul, implies_true, Nat.reduceEqDiff, reduceIte, Nat.reduceAdd, Nat.reduceBEq, reduceCtorEq, bs98_3, bs98_6, add_str, t0, t5, t6]
          refine two_intro (fun u => ?_) (fun u => ?_)
          · have hi3 : i < 3 := by have := of_decide_eq_true u; omega
            refine ⟨by show s.size + 1 ≤ _; omega, ?_⟩
            have e1 : (s ++ ⟨#[32]⟩ : ByteArray).size = s.size + 1 := by rw [ByteArray.size_append]; rfl
            generalize (s ++ ⟨#[32]⟩ : ByteArray) = s1 at *
            refine (l1Below_ok hf.cur).mono ?_
            rintro _ H7 ⟨⟨x, rfl, -, hx⟩, hg⟩
            have hx := hx (by decide)
            have hf := hf.trans hg
            have wx : IntKind.i64.wrap (x - 2) = x - 2 := IntWalk.i64_in _ (by omega)
            simp -implicitDefEqProofs only [kz, kk0, kk1, kk2, kk3, ↓two_true, ↓two_false, oS_some, oM_some, mkv, aggAt, Nat.reduceLeDiff, Nat.reduceSub, Nat.reduceMul, implies_true, Nat.reduceEqDiff, reduceIte, Nat.reduceAdd, Nat.reduceBEq, reduceCtorEq, bs98_3, bs98_6, add_str, t0, t5, t6, wx]
            refine (l8Digits_ok (by omega)).mono ?_
            rintro _ H8 ⟨⟨z, rfl, hz⟩, K8, rfl⟩
            have hf := hf.app (L := K8)
            have wi : IntKind.i64.wrap ((i : Int) + 1) = ((i + 1 : Nat) : Int) := IntWalk.i64_in ((i : Int) + 1) (by omega)
            simp -implicitDefEqProofs only [kz, kk0, kk1, kk2, kk3, ↓two_true, ↓two_false, oS_some, oM_some, mkv, aggAt, Nat.reduceLeDiff, Nat.reduceSub, Nat.reduceMul, implies_true, Nat.reduceEqDiff, reduceIte, Nat.reduceAdd, Nat.reduceBEq, reduceCtorEq, bs98_3, bs98_6, add_str, t0, t5, t6, wi]
            refine ⟨by omega, i + 1, by omega, ?_⟩
            first | exact ⟨⟨_, rfl, by rw [ByteArray.size_append]; omega⟩, rfl, hi3, hf⟩ | exact ⟨⟨_, rfl, by rw [ByteArray.size_append]; omega⟩, hi3, hf⟩
          · try simp -implicitDefEqProofs only [kz, kk0, kk1, kk2, kk3, ↓two_true, ↓two_false, oS_some, oM_some, mkv, aggAt, Nat.reduceLeDiff, Nat.reduceSub, Nat.reduceMul, implies_true, Nat.reduceEqDiff, reduceIte, Nat.reduceAdd, Nat.reduceBEq, reduceCtorEq, bs98_3, bs98_6, add_str, t0, t5, t6]
            refine (l1Once_ok hf.cur).mono ?_
            rintro _ H7 ⟨⟨b7, rfl⟩, hg⟩
            have hf := hf.trans hg
            simp -implicitDefEqProofs only [kz, kk0, kk1, kk2, kk3, ↓two_true, ↓two_false, oS_some, oM_some, mkv, aggAt, Nat.reduceLeDiff, Nat.reduceSub, Nat.reduceMul, implies_true, Nat.reduceEqDiff, reduceIte, Nat.reduceAdd, Nat.reduceBEq, reduceCtorEq, bs98_3, bs98_6, add_str, t0, t5, t6]
            refine two_intro (fun _ => ?_) (fun _ => ?_)
            · refine CallsA.mono (l1Pick_ok 3 hf.cur (by rfl) rfl (by decide)) ?_
              rintro _ H8 ⟨⟨z, rfl, hz⟩, hg⟩
              simp -implicitDefEqProofs only [kz, kk0, kk1, kk2, kk3, ↓two_true, ↓two_false, oS_some, oM_some, mkv, aggAt, Nat.reduceLeDiff, Nat.reduceSub, Nat.reduceMul, implies_true, Nat.reduceEqDiff, reduceIte, Nat.reduceAdd, Nat.reduceBEq, reduceCtorEq, bs98_3, bs98_6, add_str, t0, t5, t6]
              exact ⟨⟨_, rfl, by omega⟩, hf.trans hg⟩
            · exact ⟨⟨s, rfl, by omega⟩, hf⟩
set_option maxHeartbeats 4000000 in
theorem l8Line_step {cb d : Nat} {M M1 : Nat} (h1 : if d = 0 then M1 ≤ M else 2 * M1 + 8 ≤ M) (h60 : 60 ≤ M) (hM2 : M ≤ 1000000)
    (io : ∀ {H : AH}, Cur H cb → CallsA Try.prog 93 #[.pointer (some ⟨cb, 0, none⟩), .int .i64 ((d - 1 : Nat) : Int)] H (StrA cb H M1))
    (il : d ≠ 0 → ∀ {H : AH}, Cur H cb → CallsA Try.prog 69 #[.pointer (some ⟨cb, 0, none⟩), .int .i64 ((d - 1 : Nat) : Int)] H (StrA cb H M1)) {H : AH} (hc : Cur H cb) (hd : d ≤ 100) :
    CallsA Try.prog 69 #[.pointer (some ⟨cb, 0, none⟩), .int .i64 d] H (StrA cb H M) := by
  refine w69 ?_
  unfold k69
  have hf := Frm.refl hc
  by_cases hd0 : d = 0
  · subst hd0
    rw [if_pos rfl] at h1
    have dd : decide (((0 : Nat) : Int) ≤ 0) = true := rfl
    simp -implicitDefEqProofs only [kz, kk0, kk1, kk2, kk3, ↓two_true, ↓two_false, oS_some, oM_some, mkv, aggAt, Nat.reduceLeDiff, Nat.reduceSub, Nat.reduceMul, implies_true, Nat.reduceEqDiff, reduceIte, Nat.reduceAdd, Nat.reduceBEq, reduceCtorEq, bs98_3, bs98_12, add_str, dd]
    refine (io hc).mono ?_
    rintro _ H1 ⟨⟨s, rfl, hs⟩, hg⟩
    simp -implicitDefEqProofs only [kz, kk0, kk1, kk2, kk3, ↓two_true, ↓two_false, oS_some, oM_some, mkv, aggAt, Nat.reduceLeDiff, Nat.reduceSub, Nat.reduceMul, implies_true, Nat.reduceEqDiff, reduceIte, Nat.reduceAdd, Nat.reduceBEq, reduceCtorEq, bs98_3, bs98_12, add_str]
    exact ⟨⟨s, rfl, by omega⟩, hg⟩
  · rw [if_neg hd0] at h1
    have il := fun {H : AH} => il hd0 (H := H)
    have dd : decide ((d : Int) ≤ 0) = false := decide_eq_false (by omega)
    have wd : IntKind.i64.wrap ((d : Int) - 1) = ((d - 1 : Nat) : Int) := by rw [IntWalk.i64_in _ (by omega)]; omega
    generalize d - 1 = e at *
    simp -implicitDefEqProofs only [kz, kk0, kk1, kk2, kk3, ↓two_true, ↓two_false, oS_some, oM_some, mkv, aggAt, Nat.reduceLeDiff, Nat.reduceSub, Nat.reduceMul, implies_true, Nat.reduceEqDiff, reduceIte, Nat.reduceAdd, Nat.reduceBEq, reduceCtorEq, bs98_3, bs98_12, add_str, dd, wd]
    refine (l1Below_ok hf.cur).mono ?_
    rintro _ H1 ⟨⟨v, rfl, -, hv⟩, hg⟩
    have hv := hv (by decide)
    have hf := hf.trans hg
    simp -implicitDefEqProofs only [kz, kk0, kk1, kk2, kk3, ↓two_true, ↓two_false, oS_some, oM_some, mkv, aggAt, Nat.reduceLeDiff, Nat.reduceSub, Nat.reduceMul, implies_true, Nat.reduceEqDiff, reduceIte, Nat.reduceAdd, Nat.reduceBEq, reduceCtorEq, bs98_3, bs98_12, add_str, wd]
    have c0 : ∀ {H1 : AH}, Frm cb H H1 → CallsA Try.prog 94 #[.pointer (some ⟨cb, 0, none⟩), .slice (some ⟨H1.length, 0, none⟩) 3 1] (H1 ++ [⟨[.string ⟨#[65]⟩, .string ⟨#[66]⟩, .string ⟨#[67]⟩], .own⟩]) (StrA cb H1 1) := fun hf => l1Pick_ok 1 hf.cur (by rfl) rfl (by decide)
    refine two_intro (fun _ => ?_) (fun _ => ?_)
    · refine (c0 hf).mono ?_
      rintro _ H2 ⟨⟨z, rfl, hz⟩, hg⟩
      have hf := hf.trans hg
      simp -implicitDefEqProofs only [kz, kk0, kk1, kk2, kk3, ↓two_true, ↓two_false, oS_some, oM_some, mkv, aggAt, Nat.reduceLeDiff, Nat.reduceSub, Nat.reduceMul, implies_true, Nat.reduceEqDiff, reduceIte, Nat.reduceAdd, Nat.reduceBEq, reduceCtorEq, bs98_3, bs98_12, add_str, wd]
      have e1 : (z ++ ⟨#[32, 58, 32]⟩ : ByteArray).size = z.size + 3 := by rw [ByteArray.size_append]; rfl
      refine ⟨by show z.size + 3 ≤ _; omega, (il hf.cur).mono ?_⟩
      rintro _ H3 ⟨⟨s, rfl, hs⟩, hg⟩
      simp -implicitDefEqProofs only [kz, kk0, kk1, kk2, kk3, ↓two_true, ↓two_false, oS_some, oM_some, mkv, aggAt, Nat.reduceLeDiff, Nat.reduceSub, Nat.reduceMul, implies_true, Nat.reduceEqDiff, reduceIte, Nat.reduceAdd, Nat.reduceBEq, reduceCtorEq, bs98_3, bs98_12, add_str, wd]
      refine ⟨by omega, ⟨_, rfl, ?_⟩, hf.trans hg⟩
      rw [ByteArray.size_append]; omega
    · have dA : CallsA Try.prog 95 #[.pointer (some ⟨cb, 0, none⟩), .bool false] H1 (StrA cb H1 5) := l8DrawFun_ok hf.cur
      have caseA : ∀ tm : Tm, True := fun _ => trivial
      by_cases hv1 : v = 1
      · subst hv1
        simp -implicitDefEqProofs only [kz, kk0, kk1, kk2, kk3, ↓two_true, ↓two_false, oS_some, oM_some, mkv, aggAt, Nat.reduceLeDiff, Nat.reduceSub, Nat.reduceMul, implies_true, Nat.reduceEqDiff, reduceIte, Nat.reduceAdd, Nat.reduceBEq, reduceCtorEq, bs98_3, bs98_12, add_str, wd, beq_self_eq_true]
        refine dA.mono ?_
        rintro _ H2 ⟨⟨z, rfl, hz⟩, hg⟩
        have hf := hf.trans hg
        simp -implicitDefEqProofs only [kz, kk0, kk1, kk2, kk3, ↓two_true, ↓two_false, oS_some, oM_some, mkv, aggAt, Nat.reduceLeDiff, Nat.reduceSub, Nat.reduceMul, implies_true, Nat.reduceEqDiff, reduceIte, Nat.reduceAdd, Nat.reduceBEq, reduceCtorEq, bs98_3, bs98_12, add_str, wd]
        have e1 : (z ++ ⟨#[32]⟩ : ByteArray).size = z.size + 1 := by rw [ByteArray.size_append]; rfl
        refine ⟨by show z.size + 1 ≤ _; omega, (il hf.cur).mono ?_⟩
        rintro _ H3 ⟨⟨s, rfl, hs⟩, hg⟩
        simp -implicitDefEqProofs only [kz, kk0, kk1, kk2, kk3, ↓two_true, ↓two_false, oS_some, oM_some, mkv, aggAt, Nat.reduceLeDiff, Nat.reduceSub, Nat.reduceMul, implies_true, Nat.reduceEqDiff, reduceIte, Nat.reduceAdd, Nat.reduceBEq, reduceCtorEq, bs98_3, bs98_12, add_str, wd]
        refine ⟨by omega, ⟨_, rfl, ?_⟩, hf.trans hg⟩
        rw [ByteArray.size_append]; omega
      · have v1 : (v == 1) = false := beq_eq_false_iff_ne.2 hv1
        by_cases hv2 : v = 2
        · subst hv2
          simp -implicitDefEqProofs only [kz, kk0, kk1, kk2, kk3, ↓two_true, ↓two_false, oS_some, oM_some, mkv, aggAt, Nat.reduceLeDiff, Nat.reduceSub, Nat.reduceMul, implies_true, Nat.reduceEqDiff, reduceIte, Nat.reduceAdd, Nat.reduceBEq, reduceCtorEq, bs98_3, bs98_12, add_str, wd, v1, beq_self_eq_true]
          refine dA.mono ?_
          rintro _ H2 ⟨⟨z, rfl, hz⟩, hg⟩
          have hf := hf.trans hg
          simp -implicitDefEqProofs only [kz, kk0, kk1, kk2, kk3, ↓two_true, ↓two_false, oS_some, oM_some, mkv, aggAt, Nat.reduceLeDiff, Nat.reduceSub, Nat.reduceMul, implies_true, Nat.reduceEqDiff, reduceIte, Nat.reduceAdd, Nat.reduceBEq, reduceCtorEq, bs98_3, bs98_12, add_str, wd]
          have e1 : (z ++ ⟨#[32]⟩ : ByteArray).size = z.size + 1 := by rw [ByteArray.size_append]; rfl
          refine ⟨by show z.size + 1 ≤ _; omega, (il hf.cur).mono ?_⟩
          rintro _ H3 ⟨⟨s, rfl, hs⟩, hg⟩
          simp -implicitDefEqProofs only [kz, kk0, kk1, kk2, kk3, ↓two_true, ↓two_false, oS_some, oM_some, mkv, aggAt, Nat.reduceLeDiff, Nat.reduceSub, Nat.reduceMul, implies_true, Nat.reduceEqDiff, reduceIte, Nat.reduceAdd, Nat.reduceBEq, reduceCtorEq, bs98_3, bs98_12, add_str, wd]
          refine ⟨by omega, ⟨_, rfl, ?_⟩, hf.trans hg⟩
          rw [ByteArray.size_append]; omega
        · have v2 : (v == 2) = false := beq_eq_false_iff_ne.2 hv2
          by_cases h345 : v = 3 ∨ v = 4 ∨ v = 5
          · rcases h345 with rfl | rfl | rfl
            · simp -implicitDefEqProofs only [kz, kk0, kk1, kk2, kk3, ↓two_true, ↓two_false, oS_some, oM_some, mkv, aggAt, Nat.reduceLeDiff, Nat.reduceSub, Nat.reduceMul, implies_true, Nat.reduceEqDiff, reduceIte, Nat.reduceAdd, Nat.reduceBEq, reduceCtorEq, bs98_3, bs98_12, add_str, wd, v1, v2, beq_self_eq_true]
              refine (io hf.cur).mono ?_
              rintro _ H2 ⟨⟨a, rfl, ha⟩, hg⟩
              have hf := hf.trans hg
              simp -implicitDefEqProofs only [kz, kk0, kk1, kk2, kk3, ↓two_true, ↓two_false, oS_some, oM_some, mkv, aggAt, Nat.reduceLeDiff, Nat.reduceSub, Nat.reduceMul, implies_true, Nat.reduceEqDiff, reduceIte, Nat.reduceAdd, Nat.reduceBEq, reduceCtorEq, bs98_3, bs98_12, add_str, wd]
              have e1 : (a ++ ⟨#[32]⟩ : ByteArray).size = a.size + 1 := by rw [ByteArray.size_append]; rfl
              refine ⟨by show a.size + 1 ≤ _; omega, ?_⟩
              generalize (a ++ ⟨#[32]⟩ : ByteArray) = a1 at *
              refine (l8DrawFun_ok hf.cur).mono ?_
              rintro _ H3 ⟨⟨z, rfl, hz⟩, hg⟩
              have hf := hf.trans hg
              simp -implicitDefEqProofs only [kz, kk0, kk1, kk2, kk3, ↓two_true, ↓two_false, oS_some, oM_some, mkv, aggAt, Nat.reduceLeDiff, Nat.reduceSub, Nat.reduceMul, implies_true, Nat.reduceEqDiff, reduceIte, Nat.reduceAdd, Nat.reduceBEq, reduceCtorEq, bs98_3, bs98_12, add_str, wd]
              have e2 : (a1 ++ z : ByteArray).size = a1.size + z.size := ByteArray.size_append
              generalize (a1 ++ z : ByteArray) = a2 at *
              refine ⟨by omega, ?_⟩
              have e3 : (a2 ++ ⟨#[32]⟩ : ByteArray).size = a2.size + 1 := by rw [ByteArray.size_append]; rfl
              refine ⟨by show a2.size + 1 ≤ _; omega, ?_⟩
              generalize (a2 ++ ⟨#[32]⟩ : ByteArray) = a3 at *
              refine (il hf.cur).mono ?_
              rintro _ H4 ⟨⟨s, rfl, hs⟩, hg⟩
              simp -implicitDefEqProofs only [kz, kk0, kk1, kk2, kk3, ↓two_true, ↓two_false, oS_some, oM_some, mkv, aggAt, Nat.reduceLeDiff, Nat.reduceSub, Nat.reduceMul, implies_true, Nat.reduceEqDiff, reduceIte, Nat.reduceAdd, Nat.reduceBEq, reduceCtorEq, bs98_3, bs98_12, add_str, wd]
              refine ⟨by omega, ⟨_, rfl, ?_⟩, hf.trans hg⟩
              rw [ByteArray.size_append]; omega
            · have v3 : ((4 : Int) == 3) = false := rfl
              simp -implicitDefEqProofs only [kz, kk0, kk1, kk2, kk3, ↓two_true, ↓two_false, oS_some, oM_some, mkv, aggAt, Nat.reduceLeDiff, Nat.reduceSub, Nat.reduceMul, implies_true, Nat.reduceEqDiff, reduceIte, Nat.reduceAdd, Nat.reduceBEq, reduceCtorEq, bs98_3, bs98_12, add_str, wd, v1, v2, v3, beq_self_eq_true]
              refine (io hf.cur).mono ?_
              rintro _ H2 ⟨⟨a, rfl, ha⟩, hg⟩
              have hf := hf.trans hg
              simp -implicitDefEqProofs only [kz, kk0, kk1, kk2, kk3, ↓two_true, ↓two_false, oS_some, oM_some, mkv, aggAt, Nat.reduceLeDiff, Nat.reduceSub, Nat.reduceMul, implies_true, Nat.reduceEqDiff, reduceIte, Nat.reduceAdd, Nat.reduceBEq, reduceCtorEq, bs98_3, bs98_12, add_str, wd]
              have e1 : (a ++ ⟨#[32]⟩ : ByteArray).size = a.size + 1 := by rw [ByteArray.size_append]; rfl
              refine ⟨by show a.size + 1 ≤ _; omega, ?_⟩
              generalize (a ++ ⟨#[32]⟩ : ByteArray) = a1 at *
              refine (l8DrawFun_ok hf.cur).mono ?_
              rintro _ H3 ⟨⟨z, rfl, hz⟩, hg⟩
              have hf := hf.trans hg
              simp -implicitDefEqProofs only [kz, kk0, kk1, kk2, kk3, ↓two_true, ↓two_false, oS_some, oM_some, mkv, aggAt, Nat.reduceLeDiff, Nat.reduceSub, Nat.reduceMul, implies_true, Nat.reduceEqDiff, reduceIte, Nat.reduceAdd, Nat.reduceBEq, reduceCtorEq, bs98_3, bs98_12, add_str, wd]
              have e2 : (a1 ++ z : ByteArray).size = a1.size + z.size := ByteArray.size_append
              generalize (a1 ++ z : ByteArray) = a2 at *
              refine ⟨by omega, ?_⟩
              have e3 : (a2 ++ ⟨#[32]⟩ : ByteArray).size = a2.size + 1 := by rw [ByteArray.size_append]; rfl
              refine ⟨by show a2.size + 1 ≤ _; omega, ?_⟩
              generalize (a2 ++ ⟨#[32]⟩ : ByteArray) = a3 at *
              refine (il hf.cur).mono ?_
              rintro _ H4 ⟨⟨s, rfl, hs⟩, hg⟩
              simp -implicitDefEqProofs only [kz, kk0, kk1, kk2, kk3, ↓two_true, ↓two_false, oS_some, oM_some, mkv, aggAt, Nat.reduceLeDiff, Nat.reduceSub, Nat.reduceMul, implies_true, Nat.reduceEqDiff, reduceIte, Nat.reduceAdd, Nat.reduceBEq, reduceCtorEq, bs98_3, bs98_12, add_str, wd]
              refine ⟨by omega, ⟨_, rfl, ?_⟩, hf.trans hg⟩
              rw [ByteArray.size_append]; omega
            · have v3 : ((5 : Int) == 3) = false := rfl
              have v4 : ((5 : Int) == 4) = false := rfl
              simp -implicitDefEqProofs only [kz, kk0, kk1, kk2, kk3, ↓two_true, ↓two_false, oS_some, oM_some, mkv, aggAt, Nat.reduceLeDiff, Nat.reduceSub, Nat.reduceMul, implies_true, Nat.reduceEqDiff, reduceIte, Nat.reduceAdd, Nat.reduceBEq, reduceCtorEq, bs98_3, bs98_12, add_str, wd, v1, v2, v3, v4, beq_self_eq_true]
              refine (io hf.cur).mono ?_
              rintro _ H2 ⟨⟨a, rfl, ha⟩, hg⟩
              have hf := hf.trans hg
              simp -implicitDefEqProofs only [kz, kk0, kk1, kk2, kk3, ↓two_true, ↓two_false, oS_some, oM_some, mkv, aggAt, Nat.reduceLeDiff, Nat.reduceSub, Nat.reduceMul, implies_true, Nat.reduceEqDiff, reduceIte, Nat.reduceAdd, Nat.reduceBEq, reduceCtorEq, bs98_3, bs98_12, add_str, wd]
              have e1 : (a ++ ⟨#[32]⟩ : ByteArray).size = a.size + 1 := by rw [ByteArray.size_append]; rfl
              refine ⟨by show a.size + 1 ≤ _; omega, ?_⟩
              generalize (a ++ ⟨#[32]⟩ : ByteArray) = a1 at *
              refine (l8DrawFun_ok hf.cur).mono ?_
              rintro _ H3 ⟨⟨z, rfl, hz⟩, hg⟩
              have hf := hf.trans hg
              simp -implicitDefEqProofs only [kz, kk0, kk1, kk2, kk3, ↓two_true, ↓two_false, oS_some, oM_some, mkv, aggAt, Nat.reduceLeDiff, Nat.reduceSub, Nat.reduceMul, implies_true, Nat.reduceEqDiff, reduceIte, Nat.reduceAdd, Nat.reduceBEq, reduceCtorEq, bs98_3, bs98_12, add_str, wd]
              have e2 : (a1 ++ z : ByteArray).size = a1.size + z.size := ByteArray.size_append
              generalize (a1 ++ z : ByteArray) = a2 at *
              refine ⟨by omega, ?_⟩
              have e3 : (a2 ++ ⟨#[32]⟩ : ByteArray).size = a2.size + 1 := by rw [ByteArray.size_append]; rfl
              refine ⟨by show a2.size + 1 ≤ _; omega, ?_⟩
              generalize (a2 ++ ⟨#[32]⟩ : ByteArray) = a3 at *
              refine (il hf.cur).mono ?_
              rintro _ H4 ⟨⟨s, rfl, hs⟩, hg⟩
              simp -implicitDefEqProofs only [kz, kk0, kk1, kk2, kk3, ↓two_true, ↓two_false, oS_some, oM_some, mkv, aggAt, Nat.reduceLeDiff, Nat.reduceSub, Nat.reduceMul, implies_true, Nat.reduceEqDiff, reduceIte, Nat.reduceAdd, Nat.reduceBEq, reduceCtorEq, bs98_3, bs98_12, add_str, wd]
              refine ⟨by omega, ⟨_, rfl, ?_⟩, hf.trans hg⟩
              rw [ByteArray.size_append]; omega
          · have v3 : (v == 3) = false := beq_eq_false_iff_ne.2 (by omega)
            have v4 : (v == 4) = false := beq_eq_false_iff_ne.2 (by omega)
            have v5 : (v == 5) = false := beq_eq_false_iff_ne.2 (by omega)
            simp -implicitDefEqProofs only [kz, kk0, kk1, kk2, kk3, ↓two_true, ↓two_false, oS_some, oM_some, mkv, aggAt, Nat.reduceLeDiff, Nat.reduceSub, Nat.reduceMul, implies_true, Nat.reduceEqDiff, reduceIte, Nat.reduceAdd, Nat.reduceBEq, reduceCtorEq, bs98_3, bs98_12, add_str, wd, v1, v2, v3, v4, v5]
            refine two_intro (fun _ => ?_) (fun _ => ?_)
            · refine CallsA.mono (l1Pick_ok 20 hf.cur (by rfl) rfl (by decide)) ?_
              rintro _ H2 ⟨⟨z, rfl, hz⟩, hg⟩
              simp -implicitDefEqProofs only [kz, kk0, kk1, kk2, kk3, ↓two_true, ↓two_false, oS_some, oM_some, mkv, aggAt, Nat.reduceLeDiff, Nat.reduceSub, Nat.reduceMul, implies_true, Nat.reduceEqDiff, reduceIte, Nat.reduceAdd, Nat.reduceBEq, reduceCtorEq, bs98_3, bs98_12, add_str, wd]
              exact ⟨⟨_, rfl, by omega⟩, hf.trans hg⟩
            · refine (io hf.cur).mono ?_
              rintro _ H2 ⟨⟨z, rfl, hz⟩, hg⟩
              simp -implicitDefEqProofs only [kz, kk0, kk1, kk2, kk3, ↓two_true, ↓two_false, oS_some, oM_some, mkv, aggAt, Nat.reduceLeDiff, Nat.reduceSub, Nat.reduceMul, implies_true, Nat.reduceEqDiff, reduceIte, Nat.reduceAdd, Nat.reduceBEq, reduceCtorEq, bs98_3, bs98_12, add_str, wd]
              exact ⟨⟨_, rfl, by omega⟩, hf.trans hg⟩
set_option maxHeartbeats 4000000 in
theorem l8Both_ok {cb : Nat} : ∀ d : Nat, d ≤ 5 → (∀ {H : AH}, Cur H cb → CallsA Try.prog 93 #[.pointer (some ⟨cb, 0, none⟩), .int .i64 d] H (StrA cb H (68 * 2 ^ d - 8))) ∧ ∀ {H : AH}, Cur H cb → CallsA Try.prog 69 #[.pointer (some ⟨cb, 0, none⟩), .int .i64 d] H (StrA cb H (68 * 2 ^ d - 8)) := by
  intro d
  induction d with
  | zero =>
    intro _
    have h0 : ∀ {H : AH}, Cur H cb → CallsA Try.prog 93 #[.pointer (some ⟨cb, 0, none⟩), .int .i64 ((0 : Nat) : Int)] H (StrA cb H (68 * 2 ^ 0 - 8)) := fun {H} hc =>
      l8Op_step (M1 := 0) (by decide) (fun h => absurd rfl h) (by decide) (fun h => absurd rfl h) hc (by decide)
    exact ⟨h0, fun {H} hc => l8Line_step (M1 := 60) (by decide) (by decide) (by decide) h0 (fun h => absurd rfl h) hc (by decide)⟩
  | succ d ih =>
    intro hd
    obtain ⟨io, il⟩ := ih (by omega)
    have hp : (2 : Nat) ^ d ≤ 2 ^ 5 := Nat.pow_le_pow_right (by decide) (by omega)
    have hq : 1 ≤ (2 : Nat) ^ d := Nat.one_le_two_pow
    have h32 : (2 : Nat) ^ 5 = 32 := rfl
    have e : ((d + 1 : Nat) : Int) - 1 = (d : Int) := by omega
    refine ⟨fun {H} hc => l8Op_step (M1 := 68 * 2 ^ d - 8) ?_ (fun _ => ?_) ?_ (fun _ => ?_) hc (by omega), fun {H} hc => l8Line_step (M1 := 68 * 2 ^ d - 8) ?_ ?_ ?_ io (fun _ => il) hc (by omega)⟩
    · rw [Nat.pow_succ]; omega
    · rw [Nat.pow_succ]; omega
    · rw [Nat.pow_succ]; omega
    · rw [e]; exact il
    · rw [if_neg (by omega), Nat.pow_succ]; omega
    · rw [Nat.pow_succ]; omega
    · rw [Nat.pow_succ]; omega
set_option maxHeartbeats 4000000 in
theorem l8DrawLine_ok {H : AH} {cb : Nat} {d : Int} (hc : Cur H cb) (hd : 0 ≤ d ∧ d ≤ 5) : CallsA Try.prog 69 #[.pointer (some ⟨cb, 0, none⟩), .int .i64 d] H (StrA cb H 3000) := by
  obtain ⟨n, rfl⟩ : ∃ n : Nat, d = n := ⟨d.toNat, by omega⟩
  refine ((l8Both_ok n (by omega)).2 hc).mono ?_
  rintro r H1 ⟨⟨s, h1, h2⟩, hf⟩
  have hp : (2 : Nat) ^ n ≤ 2 ^ 5 := Nat.pow_le_pow_right (by decide) (by omega)
  have h32 : (2 : Nat) ^ 5 = 32 := rfl
  exact ⟨⟨s, h1, by omega⟩, hf⟩

set_option maxHeartbeats 4000000 in
theorem l8Dent_ok {H : AH} {cb b n N : Nat} {cs : List Value} {s : ByteArray} (hc : Cur H cb) (hb : H[b]? = some ⟨cs, .own⟩) (hbc : b ≠ cb) (hs : strs N cs = true) (hn : n = cs.length) (h0 : 0 < n) (hN : N ≤ 100) (hsz : s.size ≤ 1000000) :
    CallsA Try.prog 70 #[.pointer (some ⟨cb, 0, none⟩), .string s, .slice (some ⟨b, 0, none⟩) n 1] H (StrA cb H (s.size + N)) := by
  have w1 : IntKind.i64.wrap ((s.size : Int) + 1) = (s.size : Int) + 1 := IntWalk.i64_in _ (by omega)
  have ex1 : ∀ i j : Nat, (s.extract i j).size ≤ s.size := fun i j => by rw [ByteArray.size_extract]; omega
  have ex2 : ∀ i j : Nat, (s.extract i j).size = min j s.size - i := fun i j => ByteArray.size_extract
  refine w70 ?_
  unfold k70
  simp -implicitDefEqProofs only [kz, kk0, kk1, kk2, kk3, ↓two_true, ↓two_false, oS_some, oM_some, mkv, aggAt, Nat.reduceLeDiff, Nat.reduceSub, Nat.reduceMul, implies_true, Nat.reduceEqDiff, reduceIte, Nat.reduceAdd, Nat.reduceBEq, reduceCtorEq, ln9, sl9, add_str, w1]
  refine (l1Below_ok hc).mono ?_
  rintro _ H1 ⟨⟨v, rfl, -, hv⟩, hf⟩
  have hv := hv (by omega)
  obtain ⟨j, rfl⟩ : ∃ j : Nat, v = j := ⟨v.toNat, by omega⟩
  have wj : IntKind.i64.wrap ((j : Int) + 1) = ((j + 1 : Nat) : Int) := IntWalk.i64_in ((j : Int) + 1) (by omega)
  have zj : Int.toNat ((j : Nat) : Int) = j := Int.toNat_natCast j
  have z0 : Int.toNat 0 = 0 := rfl
  have zs : Int.toNat ((s.size : Nat) : Int) = s.size := Int.toNat_natCast _
  simp -implicitDefEqProofs only [kz, kk0, kk1, kk2, kk3, ↓two_true, ↓two_false, oS_some, oM_some, mkv, aggAt, Nat.reduceLeDiff, Nat.reduceSub, Nat.reduceMul, implies_true, Nat.reduceEqDiff, reduceIte, Nat.reduceAdd, Nat.reduceBEq, reduceCtorEq, ln9, sl9, add_str, w1]
  refine (l1Below_ok hf.cur).mono ?_
  rintro _ H2 ⟨⟨k, rfl, -, hk⟩, hg⟩
  have hf := hf.trans hg
  simp -implicitDefEqProofs only [kz, kk0, kk1, kk2, kk3, ↓two_true, ↓two_false, oS_some, oM_some, mkv, aggAt, Nat.reduceLeDiff, Nat.reduceSub, Nat.reduceMul, implies_true, Nat.reduceEqDiff, reduceIte, Nat.reduceAdd, Nat.reduceBEq, reduceCtorEq, ln9, sl9, add_str, w1]
  refine two_intro (fun _ => ?_) (fun _ => two_intro (fun _ => ?_) (fun _ => ?_))
  · refine ⟨⟨by omega, by omega, by omega⟩, ⟨_, rfl, ?_⟩, hf⟩
    have := ex1 (Int.toNat 0) (Int.toNat j); omega
  · refine ⟨⟨by omega, by omega, by omega⟩, ?_⟩
    refine (l1Pick_gen hf.cur (hf.at hb hbc) hbc hs hn h0).mono ?_
    rintro _ H3 ⟨⟨z, rfl, hz⟩, hg⟩
    have hf := hf.trans hg
    simp -implicitDefEqProofs only [kz, kk0, kk1, kk2, kk3, ↓two_true, ↓two_false, oS_some, oM_some, mkv, aggAt, Nat.reduceLeDiff, Nat.reduceSub, Nat.reduceMul, implies_true, Nat.reduceEqDiff, reduceIte, Nat.reduceAdd, Nat.reduceBEq, reduceCtorEq, ln9, sl9, add_str, w1, wj, l1Min_eq, zj, z0, zs]
    have g1 : 0 ≤ (if ((j + 1 : Nat) : Int) < (s.size : Int) then ((j + 1 : Nat) : Int) else (s.size : Int)) ∧ (if ((j + 1 : Nat) : Int) < (s.size : Int) then ((j + 1 : Nat) : Int) else (s.size : Int)) ≤ (s.size : Int) := by split <;> omega
    have g2 : j ≤ (if ((j + 1 : Nat) : Int) < (s.size : Int) then ((j + 1 : Nat) : Int) else (s.size : Int)).toNat := by split <;> omega
    generalize (if ((j + 1 : Nat) : Int) < (s.size : Int) then ((j + 1 : Nat) : Int) else (s.size : Int)) = m at *
    have e1 := ex2 0 j
    have e2 := ex2 m.toNat s.size
    have e3 : (s.extract 0 j ++ z : ByteArray).size = (s.extract 0 j).size + z.size := ByteArray.size_append
    refine ⟨by omega, ⟨g1.1, g1.2, Int.le_refl _⟩, by omega, ⟨_, rfl, ?_⟩, hf⟩
    rw [ByteArray.size_append]; omega
  · refine ⟨⟨by omega, by omega, by omega⟩, ?_⟩
    refine (l1Pick_gen hf.cur (hf.at hb hbc) hbc hs hn h0).mono ?_
    rintro _ H3 ⟨⟨z, rfl, hz⟩, hg⟩
    have hf := hf.trans hg
    simp -implicitDefEqProofs only [kz, kk0, kk1, kk2, kk3, ↓two_true, ↓two_false, oS_some, oM_some, mkv, aggAt, Nat.reduceLeDiff, Nat.reduceSub, Nat.reduceMul, implies_true, Nat.reduceEqDiff, reduceIte, Nat.reduceAdd, Nat.reduceBEq, reduceCtorEq, ln9, sl9, add_str, w1, wj, zj, z0, zs]
    have e1 := ex2 0 j
    have e2 := ex2 j s.size
    have e3 : (s.extract 0 j ++ z : ByteArray).size = (s.extract 0 j).size + z.size := ByteArray.size_append
    refine ⟨by omega, ⟨by omega, by omega, by omega⟩, by omega, ⟨_, rfl, ?_⟩, hf⟩
    rw [ByteArray.size_append]; omega

set_option maxHeartbeats 4000000 in
theorem l8DrawText_ok {H : AH} {cb : Nat} (hc : Cur H cb) : CallsA Try.prog 33 #[.pointer (some ⟨cb, 0, none⟩)] H (StrA cb H 3020) := by
  refine w33 ?_
  unfold k33
  simp -implicitDefEqProofs only [kz, kk0, kk1, kk2, kk3, ↓two_true, ↓two_false, oS_some, oM_some, mkv, aggAt, Nat.reduceLeDiff, Nat.reduceSub, Nat.reduceMul, implies_true, Nat.reduceEqDiff, reduceIte, Nat.reduceAdd, Nat.reduceBEq, reduceCtorEq, bs98_15]
  refine (l8DrawLine_ok hc (by decide)).mono ?_
  rintro _ H1 ⟨⟨s, rfl, hs⟩, hf⟩
  simp -implicitDefEqProofs only [kz, kk0, kk1, kk2, kk3, ↓two_true, ↓two_false, oS_some, oM_some, mkv, aggAt, Nat.reduceLeDiff, Nat.reduceSub, Nat.reduceMul, implies_true, Nat.reduceEqDiff, reduceIte, Nat.reduceAdd, Nat.reduceBEq, reduceCtorEq, bs98_15]
  refine (l1Once_ok hf.cur).mono ?_
  rintro _ H2 ⟨⟨b, rfl⟩, hg⟩
  have hf := hf.trans hg
  simp -implicitDefEqProofs only [kz, kk0, kk1, kk2, kk3, ↓two_true, ↓two_false, oS_some, oM_some, mkv, aggAt, Nat.reduceLeDiff, Nat.reduceSub, Nat.reduceMul, implies_true, Nat.reduceEqDiff, reduceIte, Nat.reduceAdd, Nat.reduceBEq, reduceCtorEq, bs98_15]
  refine two_intro (fun _ => ?_) (fun _ => ?_)
  · have hlt := hf.cur.lt
    refine CallsA.mono (l8Dent_ok (N := 13) hf.cur.mono (by rw [gt0]; rfl) (by omega) (by rfl) rfl (by decide) (by decide) (by omega)) ?_
    rintro _ H3 ⟨⟨z, rfl, hz⟩, hg⟩
    simp -implicitDefEqProofs only [kz, kk0, kk1, kk2, kk3, ↓two_true, ↓two_false, oS_some, oM_some, mkv, aggAt, Nat.reduceLeDiff, Nat.reduceSub, Nat.reduceMul, implies_true, Nat.reduceEqDiff, reduceIte, Nat.reduceAdd, Nat.reduceBEq, reduceCtorEq, bs98_15]
    exact ⟨⟨z, rfl, by omega⟩, hf.app.trans hg⟩
  · exact ⟨⟨s, rfl, by omega⟩, hf⟩

set_option maxHeartbeats 4000000 in
theorem drawLex_ok {H : AH} {v : Value} (hv : BRv H v) : CallsA Try.prog 8 #[v] H fun r H' => (∃ s : ByteArray, r = .string s ∧ s.size ≤ 3020) ∧ True := by
  refine w8 ?_
  unfold k8
  simp -implicitDefEqProofs only [kz, kk0, kk1, kk2, kk3, ↓two_true, ↓two_false, oS_some, oM_some, mkv, aggAt, Nat.reduceLeDiff, Nat.reduceSub, Nat.reduceMul, implies_true, Nat.reduceEqDiff, reduceIte, Nat.reduceAdd, Nat.reduceBEq, reduceCtorEq, ln9, add_str]
  refine (l1New_ok hv).mono ?_
  rintro _ H1 ⟨cb, rfl, hc, -, -⟩
  simp -implicitDefEqProofs only [kz, kk0, kk1, kk2, kk3, ↓two_true, ↓two_false, oS_some, oM_some, mkv, aggAt, Nat.reduceLeDiff, Nat.reduceSub, Nat.reduceMul, implies_true, Nat.reduceEqDiff, reduceIte, Nat.reduceAdd, Nat.reduceBEq, reduceCtorEq, ln9, add_str]
  refine (l8DrawText_ok hc).mono ?_
  rintro _ H2 ⟨⟨s, rfl, hs⟩, hf⟩
  simp -implicitDefEqProofs only [kz, kk0, kk1, kk2, kk3, ↓two_true, ↓two_false, oS_some, oM_some, mkv, aggAt, Nat.reduceLeDiff, Nat.reduceSub, Nat.reduceMul, implies_true, Nat.reduceEqDiff, reduceIte, Nat.reduceAdd, Nat.reduceBEq, reduceCtorEq, ln9, add_str]
  refine (l1Once_ok hf.cur).mono ?_
  rintro _ H3 ⟨⟨b, rfl⟩, hg⟩
  have hf := hf.trans hg
  simp -implicitDefEqProofs only [kz, kk0, kk1, kk2, kk3, ↓two_true, ↓two_false, oS_some, oM_some, mkv, aggAt, Nat.reduceLeDiff, Nat.reduceSub, Nat.reduceMul, implies_true, Nat.reduceEqDiff, reduceIte, Nat.reduceAdd, Nat.reduceBEq, reduceCtorEq, ln9, add_str]
  refine two_intro (fun _ => ?_) (fun _ => ?_)
  · refine rW_loop (σ := Nat) (fun i tm H' => tm 3 = .pointer (some ⟨cb, 0, none⟩) ∧ (∃ s : ByteArray, tm 4 = .string s ∧ s.size = i) ∧ i ≤ 301 ∧ Cur H' cb) (fun i => 301 - i) 0 ?_ ?_
    · exact ⟨rfl, ⟨_, rfl, rfl⟩, by omega, hf.cur⟩
    · rintro i tm H4 ⟨t3, ⟨z, t4, hz⟩, hi, hc4⟩
      simp -implicitDefEqProofs only [kz, kk0, kk1, kk2, kk3, ↓two_true, ↓two_false, oS_some, oM_some, mkv, aggAt, Nat.reduceLeDiff, Nat.reduceSub, Nat.reduceMul, implies_true, Nat.reduceEqDiff, reduceIte, Nat.reduceAdd, Nat.reduceBEq, reduceCtorEq, ln9, add_str, t3, t4]
      refine (l1Below_ok hc4).mono ?_
      rintro _ H5 ⟨⟨x, rfl, -, hx⟩, hg⟩
      have hx := hx (by decide)
      have wx : IntKind.i64.wrap (300 + x) = 300 + x := IntWalk.i64_in _ (by omega)
      simp -implicitDefEqProofs only [kz, kk0, kk1, kk2, kk3, ↓two_true, ↓two_false, oS_some, oM_some, mkv, aggAt, Nat.reduceLeDiff, Nat.reduceSub, Nat.reduceMul, implies_true, Nat.reduceEqDiff, reduceIte, Nat.reduceAdd, Nat.reduceBEq, reduceCtorEq, ln9, add_str, t3, t4, wx]
      refine two_intro (fun u => ?_) (fun u => ?_)
      · have hi3 : i < 301 := by have := of_decide_eq_true u; omega
        refine ⟨by show z.size + 1 ≤ _; omega, i + 1, by omega, ?_⟩
        have e1 : (z ++ ⟨#[49]⟩ : ByteArray).size = i + 1 := by rw [ByteArray.size_append, hz]; rfl
        first | exact ⟨rfl, ⟨_, rfl, e1⟩, hi3, hg.cur⟩ | exact ⟨⟨_, rfl, e1⟩, hi3, hg.cur⟩
      · try simp -implicitDefEqProofs only [kz, kk0, kk1, kk2, kk3, ↓two_true, ↓two_false, oS_some, oM_some, mkv, aggAt, Nat.reduceLeDiff, Nat.reduceSub, Nat.reduceMul, implies_true, Nat.reduceEqDiff, reduceIte, Nat.reduceAdd, Nat.reduceBEq, reduceCtorEq, ln9, add_str, t3, t4, wx]
        exact ⟨z, rfl, by omega⟩
  · exact ⟨s, rfl, by omega⟩

structure Sh (s t : ByteArray) : Prop where
  size : t.size = s.size + 4
  mid : ∀ i, i < s.size → byt t (i + 2) = byt s i
  out : ∀ i, i < s.size + 4 → (i < 2 ∨ s.size + 2 ≤ i) → byt t i = 32
theorem digE_sh {s t : ByteArray} (h : Sh s t) {n : Nat} : ∀ {q F F' : Nat} {x : Int}, s.size - q = n → q ≤ s.size → s.size - q ≤ F → t.size - (q + 2) ≤ F' → digE t F' (q + 2) x = ((digE s F q x).1, (digE s F q x).2 + 2) := by
  have hz := h.size
  induction n with
  | zero =>
    intro q F F' x h0 hq h1 h2
    have e : q = s.size := by omega
    subst e
    have hs1 : ¬ (s.size < s.size ∧ isDg (byt s s.size) = true) := fun h => Nat.lt_irrefl _ h.1
    have ht1 : ¬ (s.size + 2 < t.size ∧ isDg (byt t (s.size + 2)) = true) := by
      rintro ⟨-, hd⟩
      rw [h.out _ (by omega) (by omega)] at hd
      simp [isDg] at hd
    rw [digE_stop hs1, digE_stop ht1]
  | succ n ih =>
    intro q F F' x h0 hq h1 h2
    have hlt : q < s.size := by omega
    have hm := h.mid q hlt
    cases hd : isDg (byt s q) with
    | false =>
      have hs1 : ¬ (q < s.size ∧ isDg (byt s q) = true) := by rw [hd]; simp
      have ht1 : ¬ (q + 2 < t.size ∧ isDg (byt t (q + 2)) = true) := by rw [hm, hd]; simp
      rw [digE_stop hs1, digE_stop ht1]
    | true =>
      obtain ⟨f1, g1, e1⟩ := digE_go (n := x) hlt hd h1
      obtain ⟨f2, g2, e2⟩ := digE_go (s := t) (p := q + 2) (n := x) (by omega) (by rw [hm]; exact hd) h2
      rw [e1, e2, hm]
      exact ih (by omega) (by omega) g1 (by omega)
theorem numT_sh {s t : ByteArray} (h : Sh s t) {p q : Nat} {neg : Bool} (hq : q ≤ s.size) : numT t (p + 2) (q + 2) neg = ((numT s p q neg).1, (numT s p q neg).2.1, (numT s p q neg).2.2.1 + 2, (numT s p q neg).2.2.2) := by
  have e := digE_sh h (x := 0) (F := s.size) (F' := t.size) rfl hq (by omega) (by omega)
  unfold numT
  rw [e]
  simp only
  by_cases c1 : (digE s s.size q 0).2 = q
  · rw [if_pos (by omega), if_pos c1]
  · rw [if_neg (by omega), if_neg c1]
    by_cases c2 : 1000000000000 < (digE s s.size q 0).1
    · rw [if_pos c2, if_pos c2]
    · rw [if_neg c2, if_neg c2]
theorem tokL_sh {s t : ByteArray} (h : Sh s t) {p : Nat} (hp : p < s.size) : tokL t (p + 2) = ((tokL s p).1, (tokL s p).2.1, (tokL s p).2.2.1 + 2, (tokL s p).2.2.2) := by
  have hm := h.mid p hp
  unfold tokL
  rw [hm]
  by_cases h1 : byt s p = 95
  · rw [if_pos h1, if_pos h1]; exact numT_sh h (q := p + 1) (by omega)
  rw [if_neg h1, if_neg h1]
  by_cases h2 : isDg (byt s p) = true
  · rw [if_pos h2, if_pos h2]; exact numT_sh h (by omega)
  rw [if_neg h2, if_neg h2]
  by_cases h3 : 65 ≤ byt s p ∧ byt s p ≤ 90
  · rw [if_pos h3, if_pos h3]
  rw [if_neg h3, if_neg h3]
  by_cases h4 : byt s p = 40
  · rw [if_pos h4, if_pos h4]
  rw [if_neg h4, if_neg h4]
  by_cases h5 : byt s p = 41
  · rw [if_pos h5, if_pos h5]
  rw [if_neg h5, if_neg h5]
  by_cases h6 : byt s p = 58
  · rw [if_pos h6, if_pos h6]
  rw [if_neg h6, if_neg h6]
  by_cases h7 : hasS tkSigns (byt s p) = true
  · rw [if_pos h7, if_pos h7]
  rw [if_neg h7, if_neg h7]
theorem lexE_sh {s t : ByteArray} (h : Sh s t) {n : Nat} : ∀ {p F F' : Nat} {acc : List (Int × Int)}, s.size - p ≤ n → p ≤ s.size → s.size - p ≤ F → t.size - (p + 2) ≤ F' → (lexE s F p acc).2.1 = 0 → lexE t F' (p + 2) acc = ((lexE s F p acc).1, 0, t.size) := by
  have hz := h.size
  induction n with
  | zero =>
    intro p F F' acc h0 hq h1 h2 h3
    have e : p = s.size := by omega
    subst e
    rw [lexE_stop (s := s) (by omega)]
    obtain ⟨f1, g1, e1⟩ := lexE_go (s := t) (p := s.size + 2) (acc := acc) (by omega) h2
    rw [e1, if_pos (h.out _ (by omega) (by omega))]
    obtain ⟨f2, g2, e2⟩ := lexE_go (s := t) (p := s.size + 2 + 1) (acc := acc) (by omega) g1
    rw [e2, if_pos (h.out _ (by omega) (by omega)), lexE_stop (by omega)]
  | succ n ih =>
    intro p F F' acc h0 hq h1 h2 h3
    rcases Nat.lt_or_ge p s.size with hlt | hge
    · have hm := h.mid p hlt
      obtain ⟨f1, g1, e1⟩ := lexE_go (acc := acc) hlt h1
      obtain ⟨f2, g2, e2⟩ := lexE_go (s := t) (p := p + 2) (acc := acc) (by omega) h2
      rw [e1] at h3 ⊢
      rw [e2, hm, tokL_sh h hlt]
      by_cases c1 : byt s p = 32
      · rw [if_pos c1] at h3 ⊢
        rw [if_pos c1]
        exact ih (by omega) (by omega) g1 (by omega) h3
      · rw [if_neg c1] at h3 ⊢
        rw [if_neg c1]
        simp only
        by_cases c2 : (tokL s p).2.2.2 = 0
        · rw [if_neg (by simpa using c2)] at h3 ⊢
          rw [if_neg (by simpa using c2)]
          obtain ⟨n1, n2⟩ := tokL_next hlt c2
          exact ih (by omega) n2 (by omega) (by omega) h3
        · rw [if_pos c2] at h3
          exact absurd h3 c2
    · exact ih (by omega) hq h1 h2 h3
theorem lexA_sh {s t : ByteArray} (h : Sh s t) (hs : s.size ≤ 296) (h0 : (lexA s).2.1 = 0) : lexA t = ((lexA s).1, 0, t.size) := by
  have hz := h.size
  unfold lexA at h0 ⊢
  rw [if_neg (by omega)] at h0 ⊢
  rw [if_neg (by omega)]
  obtain ⟨f1, g1, e1⟩ := lexE_go (s := t) (p := 0) (acc := []) (f := t.size) (by omega) (by omega)
  rw [e1, if_pos (h.out _ (by omega) (by omega))]
  obtain ⟨f2, g2, e2⟩ := lexE_go (s := t) (p := 0 + 1) (acc := []) (by omega) g1
  rw [e2, if_pos (h.out _ (by omega) (by omega))]
  exact lexE_sh h (n := s.size) (p := 0) (by omega) (by omega) (by omega) (by omega) h0
theorem lexE_bad {s : ByteArray} {n : Nat} : ∀ {p F : Nat} {acc : List (Int × Int)}, (lexE s F p acc).2.1 ≠ 0 → s.size - p ≤ n → s.size - p ≤ F → (lexE s F p acc).1 = [] := by
  induction n with
  | zero =>
    intro p F acc h h0 h1
    rw [lexE_stop (by omega)] at h
    exact absurd rfl h
  | succ n ih =>
    intro p F acc h h0 h1
    rcases Nat.lt_or_ge p s.size with hlt | hge
    · obtain ⟨f1, g1, e1⟩ := lexE_go (acc := acc) hlt h1
      rw [e1] at h ⊢
      by_cases c1 : byt s p = 32
      · rw [if_pos c1] at h ⊢
        exact ih h (by omega) g1
      · rw [if_neg c1] at h ⊢
        by_cases c2 : (tokL s p).2.2.2 ≠ 0
        · rw [if_pos c2]
        · rw [if_neg c2] at h ⊢
          obtain ⟨n1, n2⟩ := tokL_next hlt (by simpa using c2)
          exact ih h (by omega) (by omega)
    · rw [lexE_stop (by omega)] at h
      exact absurd rfl h
theorem lexA_bad {s : ByteArray} (h : (lexA s).2.1 ≠ 0) : (lexA s).1 = [] := by
  unfold lexA at h ⊢
  split
  · rfl
  · rename_i hs
    rw [if_neg hs] at h
    exact lexE_bad h (Nat.le_refl _) (by omega)
theorem byt_list {s : ByteArray} {i : Nat} : byt s i = match s.data.toList[i]? with | some b => (b.toNat : Int) | none => 0 := by
  unfold byt
  have : s[i]? = s.data.toList[i]? := by
    by_cases h : i < s.size
    · have h2 : i < s.data.toList.length := by rw [Array.length_toList]; exact h
      rw [List.getElem?_eq_getElem h2]
      simp [h]
      rfl
    · have h2 : ¬ i < s.data.toList.length := by rw [Array.length_toList]; exact h
      rw [List.getElem?_eq_none (by omega)]
      simp; omega
  rw [this]
  cases s.data.toList[i]? <;> rfl
theorem sh_of {s : ByteArray} : Sh s (⟨#[32, 32]⟩ ++ s ++ ⟨#[32, 32]⟩) := by
  have hw : (⟨#[32, 32]⟩ : ByteArray).size = 2 := rfl
  have hl : s.data.toList.length = s.size := by rw [Array.length_toList]; rfl
  have e : (⟨#[32, 32]⟩ ++ s ++ ⟨#[32, 32]⟩ : ByteArray).data.toList = [32, 32] ++ s.data.toList ++ [32, 32] := by simp
  refine ⟨by rw [ByteArray.size_append, ByteArray.size_append, hw]; omega, fun i hi => ?_, fun i hi h => ?_⟩
  · rw [byt_list, byt_list, e, List.getElem?_append_left (by simp; omega), List.getElem?_append_right (by simp)]
    simp
  · rw [byt_list, e]
    rcases h with h | h
    · rw [List.append_assoc, List.getElem?_append_left (by simp; omega)]
      have : i = 0 ∨ i = 1 := by omega
      rcases this with rfl | rfl <;> rfl
    · rw [List.getElem?_append_right (by simp; omega)]
      have : i - ([32, 32] ++ s.data.toList).length = 0 ∨ i - ([32, 32] ++ s.data.toList).length = 1 := by simp; omega
      rcases this with h | h <;> rw [h] <;> rfl

theorem elm_map {s i : Nat} {H : AH} {xs ys : List Value} (h : cvs H xs = cvs H ys) : (elm s xs i).map (cv H) = (elm s ys i).map (cv H) := by
  have e := congrArg (fun l : List CV => (l.drop (i * s)).take s) h
  simpa [elm, cvs] using e
set_option maxHeartbeats 4000000 in
theorem sameTokens_ok {H : AH} {v w : Value} {n : Nat} {xs ys : List Value} (hv : FRow H v kToken n xs) (hw : FRow H w kToken n ys) (hl : n ≤ 1073741824) (he : cvs H xs = cvs H ys) :
    CallsA Try.prog 11 #[v, w] H fun r H' => r = .bool true ∧ H' = H := by
  obtain ⟨a, c, rfl, gv⟩ := hv.opn 2 rfl
  obtain ⟨a', c', rfl, gw⟩ := hw.opn 2 rfl
  refine w11 ?_
  unfold k11
  simp -implicitDefEqProofs only [kz, kk0, kk1, kk2, kk3, ↓two_true, ↓two_false, oS_some, oM_some, mkv, aggAt, Nat.reduceLeDiff, Nat.reduceSub, Nat.reduceMul, implies_true, Nat.reduceEqDiff, reduceIte, Nat.reduceAdd, Nat.reduceBEq, reduceCtorEq, ef54, eg54, ix25, ld54, ln25, bne_self_eq_false]
  refine rW_loop (σ := Nat) (fun i tm H' => tm 0 = .slice a n c ∧ tm 1 = .slice a' n c' ∧ tm 5 = .int .i64 i ∧ H' = H ∧ i ≤ n) (fun i => n - i) 0 ?_ ?_
  · exact ⟨rfl, rfl, rfl, rfl, Nat.zero_le _⟩
  · rintro i tm H' ⟨h0, h1, h5, rfl, hi⟩
    simp -implicitDefEqProofs only [kz, kk0, kk1, kk2, kk3, ↓two_true, ↓two_false, oS_some, oM_some, mkv, aggAt, Nat.reduceLeDiff, Nat.reduceSub, Nat.reduceMul, implies_true, Nat.reduceEqDiff, reduceIte, Nat.reduceAdd, Nat.reduceBEq, reduceCtorEq, ef54, eg54, ix25, ld54, ln25, h0, h1, h5]
    refine two_intro (fun hc => ?_) (fun hc => ?_)
    · have hc' : i < n := by simpa using hc
      obtain ⟨b, o, cs, rfl, rfl, hrd, hle, hcell⟩ := gv (by omega)
      obtain ⟨b', o', cs', rfl, rfl, hrd', hle', hcell'⟩ := gw (by omega)
      have x1 := hv.elemn 2 rfl hc'
      have x2 := hw.elemn 2 rfl hc'
      have em := elm_map (s := 2) (i := i) he
      have l1 : ld Try.prog 54 (o + i * 2) cs = some (.agg (elm 2 xs i).toArray) := by rw [ld54]; exact (hcell i hc').1
      have l2 : ld Try.prog 54 (o' + i * 2) cs' = some (.agg (elm 2 ys i).toArray) := by rw [ld54]; exact (hcell' i hc').1
      generalize elm 2 xs i = ex at *
      generalize elm 2 ys i = ey at *
      obtain ⟨_, _, rfl, ⟨p1, rfl⟩, _, _, rfl, ⟨p2, rfl⟩, rfl⟩ := x1
      obtain ⟨_, _, rfl, ⟨q1, rfl⟩, _, _, rfl, ⟨q2, rfl⟩, rfl⟩ := x2
      simp only [List.map_cons, List.map_nil, cv_int, List.cons.injEq, CV.i.injEq, and_true] at em
      obtain ⟨rfl, rfl⟩ := em
      have r1 := row_lt (s := 2) hc'
      have hb : (!(p1 == p1 && p2 == p2)) = false := by simp
      simp -implicitDefEqProofs only [kz, kk0, kk1, kk2, kk3, ↓two_true, ↓two_false, oS_some, oM_some, mkv, aggAt, Nat.reduceLeDiff, Nat.reduceSub, Nat.reduceMul, implies_true, Nat.reduceEqDiff, reduceIte, Nat.reduceAdd, Nat.reduceBEq, reduceCtorEq, ef54, eg54, ix25, ld54, ln25, h0, h1, h5, Int.toNat_natCast, hrd, hrd', l1, l2, hb, IntWalk.i64_in (↑i + 1) (by omega)]
      refine ⟨⟨by omega, by omega⟩, ⟨by omega, by omega⟩, i + 1, by omega, ?_⟩
      first | exact ⟨rfl, hc'⟩ | exact hc'
    · try simp -implicitDefEqProofs only [kz, kk0, kk1, kk2, kk3, ↓two_true, ↓two_false, oS_some, oM_some, mkv, aggAt, Nat.reduceLeDiff, Nat.reduceSub, Nat.reduceMul, implies_true, Nat.reduceEqDiff, reduceIte, Nat.reduceAdd, Nat.reduceBEq, reduceCtorEq, ef54, eg54, ix25, ld54, ln25, h0, h1, h5]

set_option maxHeartbeats 4000000 in
theorem law3 : LawA Try.prog 3 [22] := by
  intro H vs hro h
  obtain ⟨v, vs, rfl, hv, h2⟩ := h.cons
  obtain rfl := h2.nil
  obtain ⟨a0, n0, c0, rfl, hb⟩ := rpBytes hv Try.underlying22 Try.underlying5 (by kernel_rfl)
  clear hv h2 hro
  refine w3 ?_
  unfold k3
  simp -implicitDefEqProofs only [kz, kk0, kk1, kk2, kk3, ↓two_true, ↓two_false, oS_some, oM_some, mkv, aggAt, Nat.reduceLeDiff, Nat.reduceSub, Nat.reduceMul, implies_true, Nat.reduceEqDiff, reduceIte, Nat.reduceAdd, Nat.reduceBEq, reduceCtorEq, ln9, ln25, big_eq, add_str]
  refine two_intro (fun h => trivial) (fun h => ?_)
  have hn0 : n0 ≤ 1048576 := by simp at h; omega
  refine (drawLex_ok ⟨a0, n0, c0, rfl, hn0, hb⟩).mono ?_
  rintro _ H1 ⟨⟨s, rfl, hs⟩, -⟩
  simp -implicitDefEqProofs only [kz, kk0, kk1, kk2, kk3, ↓two_true, ↓two_false, oS_some, oM_some, mkv, aggAt, Nat.reduceLeDiff, Nat.reduceSub, Nat.reduceMul, implies_true, Nat.reduceEqDiff, reduceIte, Nat.reduceAdd, Nat.reduceBEq, reduceCtorEq, ln9, ln25, add_str]
  refine (implLex_ok (s := s) (by omega)).mono ?_
  rintro _ H2 ⟨⟨la, lc, lys, rfl, ln, lV⟩, -⟩
  simp -implicitDefEqProofs only [kz, kk0, kk1, kk2, kk3, ↓two_true, ↓two_false, oS_some, oM_some, mkv, aggAt, Nat.reduceLeDiff, Nat.reduceSub, Nat.reduceMul, implies_true, Nat.reduceEqDiff, reduceIte, Nat.reduceAdd, Nat.reduceBEq, reduceCtorEq, ln9, ln25, add_str]
  refine (specLex_ok (s := s) (by omega)).mono ?_
  rintro _ H3 ⟨⟨ma, mc, mys, rfl, -, -⟩, hK3⟩
  simp -implicitDefEqProofs only [kz, kk0, kk1, kk2, kk3, ↓two_true, ↓two_false, oS_some, oM_some, mkv, aggAt, Nat.reduceLeDiff, Nat.reduceSub, Nat.reduceMul, implies_true, Nat.reduceEqDiff, reduceIte, Nat.reduceAdd, Nat.reduceBEq, reduceCtorEq, ln9, ln25, add_str, bne_self_eq_false]
  by_cases h0 : (lexA s).2.1 = 0
  · have e0 : ((lexA s).2.1 != 0) = false := by rw [h0]; rfl
    have e1 : ((lexA s).2.1 == 0) = true := by rw [h0]; rfl
    simp -implicitDefEqProofs only [kz, kk0, kk1, kk2, kk3, ↓two_true, ↓two_false, oS_some, oM_some, mkv, aggAt, Nat.reduceLeDiff, Nat.reduceSub, Nat.reduceMul, implies_true, Nat.reduceEqDiff, reduceIte, Nat.reduceAdd, Nat.reduceBEq, reduceCtorEq, ln9, ln25, add_str, e0, e1]
    refine two_intro (fun u => trivial) (fun u => ?_)
    have hs2 : s.size ≤ 296 := by have := of_decide_eq_false u; omega
    have ht := lexA_sh (t := ⟨#[32, 32]⟩ ++ s ++ ⟨#[32, 32]⟩) sh_of hs2 h0
    have hsz := (sh_of (s := s)).size
    have e2 : (⟨#[32, 32]⟩ ++ s : ByteArray).size = s.size + 2 := by rw [ByteArray.size_append]; show 2 + s.size = _; omega
    refine ⟨by show 2 + s.size ≤ _; omega, by rw [e2]; show s.size + 2 + 2 ≤ _; omega, ?_⟩
    generalize (⟨#[32, 32]⟩ ++ s ++ ⟨#[32, 32]⟩ : ByteArray) = t at *
    refine (implLex_ok (s := t) (by omega)).mono ?_
    rintro _ H4 ⟨⟨ta, tc, tys, rfl, tn, tV⟩, hK4⟩
    rw [ht] at tn tV ⊢
    simp only at tn tV ⊢
    have w4 : IntKind.i64.wrap ((s.size : Int) + 4) = ((t.size : Nat) : Int) := by rw [IntWalk.i64_in _ (by omega)]; omega
    simp -implicitDefEqProofs only [kz, kk0, kk1, kk2, kk3, ↓two_true, ↓two_false, oS_some, oM_some, mkv, aggAt, Nat.reduceLeDiff, Nat.reduceSub, Nat.reduceMul, implies_true, Nat.reduceEqDiff, reduceIte, Nat.reduceAdd, Nat.reduceBEq, reduceCtorEq, ln9, ln25, add_str, w4, beq_self_eq_true]
    obtain ⟨K3, rfl⟩ := hK3
    obtain ⟨K4, rfl⟩ := hK4
    have f1 := ln.ot.frow
    have v1 := f1.vals (L := K3 ++ K4)
    have f2 := f1.mono (L := K3 ++ K4)
    rw [← List.append_assoc] at v1 f2
    have hlen := lexA_len (s := s)
    refine (sameTokens_ok f2 tn.ot.frow (by omega) (by rw [v1, lV, tV])).mono ?_
    rintro _ _ ⟨rfl, rfl⟩
    simp -implicitDefEqProofs only [kz, kk0, kk1, kk2, kk3, ↓two_true, ↓two_false, oS_some, oM_some, mkv, aggAt, Nat.reduceLeDiff, Nat.reduceSub, Nat.reduceMul, implies_true, Nat.reduceEqDiff, reduceIte, Nat.reduceAdd, Nat.reduceBEq, reduceCtorEq, ln9, ln25]
  · have e0 : ((lexA s).2.1 != 0) = true := by simpa using h0
    have e1 : ((lexA s).2.1 == 0) = false := by simpa using h0
    have e2 := lexA_bad h0
    simp -implicitDefEqProofs only [kz, kk0, kk1, kk2, kk3, ↓two_true, ↓two_false, oS_some, oM_some, mkv, aggAt, Nat.reduceLeDiff, Nat.reduceSub, Nat.reduceMul, implies_true, Nat.reduceEqDiff, reduceIte, Nat.reduceAdd, Nat.reduceBEq, reduceCtorEq, ln9, ln25, add_str, e0, e1, e2, List.length_nil]
    rfl

end Go.Proofs.Ytdagncfnkenbfaa.AM
