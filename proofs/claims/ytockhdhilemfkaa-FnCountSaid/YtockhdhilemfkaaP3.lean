/- What the functions answer, part 3. -/
import Derived.Test.YtockhdhilemfkaaP2
set_option linter.unusedVariables false
set_option linter.unusedSimpArgs false
set_option linter.defProp false
set_option maxRecDepth 100000
/- What the functions answer, part 3. -/
namespace Go.Proofs.Ytockhdhilemfkaa.AM
open Go Go.Proofs.Ytockhdhilemfkaa Go.Proofs
theorem implReduced_ok {H : AH} {s : Int} {v w : Value} {rs : List (List Int × List Int)} {sh : List Int} (r : RowsA H v rs) (h : IntRow H w sh) (l1 : rs.length ≤ 1048576) (l2 : sh.length ≤ 1048575) (hrl : ∀ r ∈ rs, r.1.length ≤ 1048576 ∧ r.2.length ≤ 1048576) (hsz : rs.length = 0 → 0 ≤ sizeI sh) : CallsA Try.prog 79 #[.int .i64 s, v, w] H fun r H' => Ans1 H H' r (redR s rs sh) := by
  have r0 := r
  obtain ⟨ra, rc, rfl, -⟩ := r0
  obtain ⟨wa, wc, rfl, -⟩ := h.op
  have hsl := sizeI_le (l := sh)
  have q := (LX.nil (H := H))
  refine w79 ?_
  unfold k79
  simp -implicitDefEqProofs only [kk0, kk1, kk2, kk3, rW_block, ↓two_true, ↓two_false, rW_cond, rO_guard, mkv, aggAt, Nat.reduceLeDiff, Nat.reduceSub, Nat.reduceMul, cond_true, cond_false, Option.bind_some, List.length_append, List.length_cons, List.length_nil, List.append_assoc, List.cons_append, List.nil_append, List.set_cons_zero, List.set_cons_succ, List.size_toArray, List.all_cons, List.all_nil, List.drop_zero, List.drop_succ_cons, List.take_succ_cons, List.take_zero, List.mem_cons, Prod.mk.injEq, List.not_mem_nil, implies_true, List.getElem?_toArray, List.getElem?_cons_zero, List.getElem?_cons_succ, List.getElem?_nil, Option.getD_some, Option.getD_none, Nat.reduceEqDiff, reduceIte, Nat.reduceAdd, List.map_toArray, List.map_cons, List.map_nil, Bool.false_eq_true, Nat.reduceBEq, Option.map_some, Option.map_none, reduceCtorEq, al26, ap24_24, bd26, bs24_1, fa26_1, ix86, ld24, ld26, ln86, st24, st26, implNeutral_eq]
  refine st_box q fun H1 q1 => ?_
  simp -implicitDefEqProofs only [kk0, kk1, kk2, kk3, rW_block, ↓two_true, ↓two_false, rW_cond, rO_guard, mkv, aggAt, Nat.reduceLeDiff, Nat.reduceSub, Nat.reduceMul, cond_true, cond_false, Option.bind_some, List.length_append, List.length_cons, List.length_nil, List.append_assoc, List.cons_append, List.nil_append, List.set_cons_zero, List.set_cons_succ, List.size_toArray, List.all_cons, List.all_nil, List.drop_zero, List.drop_succ_cons, List.take_succ_cons, List.take_zero, List.mem_cons, Prod.mk.injEq, List.not_mem_nil, implies_true, List.getElem?_toArray, List.getElem?_cons_zero, List.getElem?_cons_succ, List.getElem?_nil, Option.getD_some, Option.getD_none, Nat.reduceEqDiff, reduceIte, Nat.reduceAdd, List.map_toArray, List.map_cons, List.map_nil, Bool.false_eq_true, Nat.reduceBEq, Option.map_some, Option.map_none, reduceCtorEq, al26, ap24_24, bd26, bs24_1, fa26_1, ix86, ld24, ld26, ln86, st24, st26, implNeutral_eq, q1.rd 0 rfl]
  refine two_intro (fun u1 => ?_) (fun u1 => ?_)
  ·
    have hr0 : rs.length = 0 := by simpa using u1
    try simp -implicitDefEqProofs only [kk0, kk1, kk2, kk3, rW_block, ↓two_true, ↓two_false, rW_cond, rO_guard, mkv, aggAt, Nat.reduceLeDiff, Nat.reduceSub, Nat.reduceMul, cond_true, cond_false, Option.bind_some, List.length_append, List.length_cons, List.length_nil, List.append_assoc, List.cons_append, List.nil_append, List.set_cons_zero, List.set_cons_succ, List.size_toArray, List.all_cons, List.all_nil, List.drop_zero, List.drop_succ_cons, List.take_succ_cons, List.take_zero, List.mem_cons, Prod.mk.injEq, List.not_mem_nil, implies_true, List.getElem?_toArray, List.getElem?_cons_zero, List.getElem?_cons_succ, List.getElem?_nil, Option.getD_some, Option.getD_none, Nat.reduceEqDiff, reduceIte, Nat.reduceAdd, List.map_toArray, List.map_cons, List.map_nil, Bool.false_eq_true, Nat.reduceBEq, Option.map_some, Option.map_none, reduceCtorEq, al26, ap24_24, bd26, bs24_1, fa26_1, ix86, ld24, ld26, ln86, st24, st26, implNeutral_eq, q1.rd 0 rfl]
    have q2 := q1.nil0
    refine st_app q2 0 rfl (h.ext q2.ext) (by (try simp only [List.length_cons, List.length_nil, List.length_append, List.length_replicate, List.length_map, List.length_take, List.length_drop]); omega) fun a1 c1 H2 q3 => ?_
    simp only [List.set_cons_zero, List.set_cons_succ, List.length_nil, List.length_cons, Nat.zero_add, List.nil_append] at q3 ⊢
    simp -implicitDefEqProofs only [kk0, kk1, kk2, kk3, rW_block, ↓two_true, ↓two_false, rW_cond, rO_guard, mkv, aggAt, Nat.reduceLeDiff, Nat.reduceSub, Nat.reduceMul, cond_true, cond_false, Option.bind_some, List.length_append, List.length_cons, List.length_nil, List.append_assoc, List.cons_append, List.nil_append, List.set_cons_zero, List.set_cons_succ, List.size_toArray, List.all_cons, List.all_nil, List.drop_zero, List.drop_succ_cons, List.take_succ_cons, List.take_zero, List.mem_cons, Prod.mk.injEq, List.not_mem_nil, implies_true, List.getElem?_toArray, List.getElem?_cons_zero, List.getElem?_cons_succ, List.getElem?_nil, Option.getD_some, Option.getD_none, Nat.reduceEqDiff, reduceIte, Nat.reduceAdd, List.map_toArray, List.map_cons, List.map_nil, Bool.false_eq_true, Nat.reduceBEq, Option.map_some, Option.map_none, reduceCtorEq, al26, ap24_24, bd26, bs24_1, fa26_1, ix86, ld24, ld26, ln86, st24, st26, implNeutral_eq, q3.rd 1 rfl]
    try simp -implicitDefEqProofs only [kk0, kk1, kk2, kk3, rW_block, ↓two_true, ↓two_false, rW_cond, rO_guard, mkv, aggAt, Nat.reduceLeDiff, Nat.reduceSub, Nat.reduceMul, cond_true, cond_false, Option.bind_some, List.length_append, List.length_cons, List.length_nil, List.append_assoc, List.cons_append, List.nil_append, List.set_cons_zero, List.set_cons_succ, List.size_toArray, List.all_cons, List.all_nil, List.drop_zero, List.drop_succ_cons, List.take_succ_cons, List.take_zero, List.mem_cons, Prod.mk.injEq, List.not_mem_nil, implies_true, List.getElem?_toArray, List.getElem?_cons_zero, List.getElem?_cons_succ, List.getElem?_nil, Option.getD_some, Option.getD_none, Nat.reduceEqDiff, reduceIte, Nat.reduceAdd, List.map_toArray, List.map_cons, List.map_nil, Bool.false_eq_true, Nat.reduceBEq, Option.map_some, Option.map_none, reduceCtorEq, al26, ap24_24, bd26, bs24_1, fa26_1, ix86, ld24, ld26, ln86, st24, st26, implNeutral_eq, q3.rd 1 rfl]
    refine st_box q3 fun H3 q4 => ?_
    simp -implicitDefEqProofs only [kk0, kk1, kk2, kk3, rW_block, ↓two_true, ↓two_false, rW_cond, rO_guard, mkv, aggAt, Nat.reduceLeDiff, Nat.reduceSub, Nat.reduceMul, cond_true, cond_false, Option.bind_some, List.length_append, List.length_cons, List.length_nil, List.append_assoc, List.cons_append, List.nil_append, List.set_cons_zero, List.set_cons_succ, List.size_toArray, List.all_cons, List.all_nil, List.drop_zero, List.drop_succ_cons, List.take_succ_cons, List.take_zero, List.mem_cons, Prod.mk.injEq, List.not_mem_nil, implies_true, List.getElem?_toArray, List.getElem?_cons_zero, List.getElem?_cons_succ, List.getElem?_nil, Option.getD_some, Option.getD_none, Nat.reduceEqDiff, reduceIte, Nat.reduceAdd, List.map_toArray, List.map_cons, List.map_nil, Bool.false_eq_true, Nat.reduceBEq, Option.map_some, Option.map_none, reduceCtorEq, al26, ap24_24, bd26, bs24_1, fa26_1, ix86, ld24, ld26, ln86, st24, st26, implNeutral_eq, q4.rd 0 rfl, q4.rd 2 rfl]
    refine st_set q4 0 rfl fun H4 q5 => ?_
    simp only [List.set_cons_zero, List.set_cons_succ] at q5
    simp -implicitDefEqProofs only [kk0, kk1, kk2, kk3, rW_block, ↓two_true, ↓two_false, rW_cond, rO_guard, mkv, aggAt, Nat.reduceLeDiff, Nat.reduceSub, Nat.reduceMul, cond_true, cond_false, Option.bind_some, List.length_append, List.length_cons, List.length_nil, List.append_assoc, List.cons_append, List.nil_append, List.set_cons_zero, List.set_cons_succ, List.size_toArray, List.all_cons, List.all_nil, List.drop_zero, List.drop_succ_cons, List.take_succ_cons, List.take_zero, List.mem_cons, Prod.mk.injEq, List.not_mem_nil, implies_true, List.getElem?_toArray, List.getElem?_cons_zero, List.getElem?_cons_succ, List.getElem?_nil, Option.getD_some, Option.getD_none, Nat.reduceEqDiff, reduceIte, Nat.reduceAdd, List.map_toArray, List.map_cons, List.map_nil, Bool.false_eq_true, Nat.reduceBEq, Option.map_some, Option.map_none, reduceCtorEq, al26, ap24_24, bd26, bs24_1, fa26_1, ix86, ld24, ld26, ln86, st24, st26, implNeutral_eq, q5.rd 0 rfl, q5.rd 2 rfl]
    have q6 := q5.nil0
    refine rW_loopQ (σ := Nat × Option Addr × Nat) q6 [2, 6, 7, 8, 10] (fun x tm => tm 11 = .int .i64 x.1 ∧ x.1 ≤ (sizeI sh).toNat) (fun x L => (L.set 1 (.own (.box H2.length [.slice a1 sh.length c1, .slice x.2.1 (List.replicate x.1 (neuF s).1).length x.2.2]))).set 0 (.own (.row (.slice x.2.1 (List.replicate x.1 (neuF s).1).length x.2.2) (List.replicate x.1 (neuF s).1)))) (fun x => (sizeI sh).toNat - x.1) (0, none, 0) ⟨rfl, Nat.zero_le _⟩ rfl ?_
    rintro ⟨i, av, cv⟩ tm1 H5 ⟨h1, h2, h3, h4, h5, -⟩ ⟨ki, hi⟩ q7
    simp -implicitDefEqProofs only [kk0, kk1, kk2, kk3, rW_block, ↓two_true, ↓two_false, rW_cond, rO_guard, mkv, aggAt, Nat.reduceLeDiff, Nat.reduceSub, Nat.reduceMul, cond_true, cond_false, Option.bind_some, List.length_append, List.length_cons, List.length_nil, List.append_assoc, List.cons_append, List.nil_append, List.set_cons_zero, List.set_cons_succ, List.size_toArray, List.all_cons, List.all_nil, List.drop_zero, List.drop_succ_cons, List.take_succ_cons, List.take_zero, List.mem_cons, Prod.mk.injEq, List.not_mem_nil, implies_true, List.getElem?_toArray, List.getElem?_cons_zero, List.getElem?_cons_succ, List.getElem?_nil, Option.getD_some, Option.getD_none, Nat.reduceEqDiff, reduceIte, Nat.reduceAdd, List.map_toArray, List.map_cons, List.map_nil, Bool.false_eq_true, Nat.reduceBEq, Option.map_some, Option.map_none, reduceCtorEq, al26, ap24_24, bd26, bs24_1, fa26_1, ix86, ld24, ld26, ln86, st24, st26] at h1 h2 h3 h4 h5
    simp only [List.set_cons_zero, List.set_cons_succ] at q7
    simp only at ki hi
    have wi := IntWalk.i64_in ((i : Int) + 1) (by omega)
    have es1 := fun Φ => (implSizeOf_ok (h.ext q7.ext) (by omega)).eq0 (Φ := Φ)
    simp -implicitDefEqProofs only [kk0, kk1, kk2, kk3, rW_block, ↓two_true, ↓two_false, rW_cond, rO_guard, mkv, aggAt, Nat.reduceLeDiff, Nat.reduceSub, Nat.reduceMul, cond_true, cond_false, Option.bind_some, List.length_append, List.length_cons, List.length_nil, List.append_assoc, List.cons_append, List.nil_append, List.set_cons_zero, List.set_cons_succ, List.size_toArray, List.all_cons, List.all_nil, List.drop_zero, List.drop_succ_cons, List.take_succ_cons, List.take_zero, List.mem_cons, Prod.mk.injEq, List.not_mem_nil, implies_true, List.getElem?_toArray, List.getElem?_cons_zero, List.getElem?_cons_succ, List.getElem?_nil, Option.getD_some, Option.getD_none, Nat.reduceEqDiff, reduceIte, Nat.reduceAdd, List.map_toArray, List.map_cons, List.map_nil, Bool.false_eq_true, Nat.reduceBEq, Option.map_some, Option.map_none, reduceCtorEq, al26, ap24_24, bd26, bs24_1, fa26_1, ix86, ld24, ld26, ln86, st24, st26, implNeutral_eq, es1, h1, h2, h3, h4, h5, ki, wi, q7.rd 1 rfl, q7.rd 3 rfl]
    refine two_intro (fun u2 => ?_) (fun u2 => ?_)
    ·
      have hc : (i : Int) < sizeI sh := by simpa using u2
      try simp -implicitDefEqProofs only [kk0, kk1, kk2, kk3, rW_block, ↓two_true, ↓two_false, rW_cond, rO_guard, mkv, aggAt, Nat.reduceLeDiff, Nat.reduceSub, Nat.reduceMul, cond_true, cond_false, Option.bind_some, List.length_append, List.length_cons, List.length_nil, List.append_assoc, List.cons_append, List.nil_append, List.set_cons_zero, List.set_cons_succ, List.size_toArray, List.all_cons, List.all_nil, List.drop_zero, List.drop_succ_cons, List.take_succ_cons, List.take_zero, List.mem_cons, Prod.mk.injEq, List.not_mem_nil, implies_true, List.getElem?_toArray, List.getElem?_cons_zero, List.getElem?_cons_succ, List.getElem?_nil, Option.getD_some, Option.getD_none, Nat.reduceEqDiff, reduceIte, Nat.reduceAdd, List.map_toArray, List.map_cons, List.map_nil, Bool.false_eq_true, Nat.reduceBEq, Option.map_some, Option.map_none, reduceCtorEq, al26, ap24_24, bd26, bs24_1, fa26_1, ix86, ld24, ld26, ln86, st24, st26, implNeutral_eq, es1, h1, h2, h3, h4, h5, ki, wi, q7.rd 1 rfl, q7.rd 3 rfl]
      refine st_lit [_] rfl rfl q7 fun H6 q8 => ?_
      simp -implicitDefEqProofs only [kk0, kk1, kk2, kk3, rW_block, ↓two_true, ↓two_false, rW_cond, rO_guard, mkv, aggAt, Nat.reduceLeDiff, Nat.reduceSub, Nat.reduceMul, cond_true, cond_false, Option.bind_some, List.length_append, List.length_cons, List.length_nil, List.append_assoc, List.cons_append, List.nil_append, List.set_cons_zero, List.set_cons_succ, List.size_toArray, List.all_cons, List.all_nil, List.drop_zero, List.drop_succ_cons, List.take_succ_cons, List.take_zero, List.mem_cons, Prod.mk.injEq, List.not_mem_nil, implies_true, List.getElem?_toArray, List.getElem?_cons_zero, List.getElem?_cons_succ, List.getElem?_nil, Option.getD_some, Option.getD_none, Nat.reduceEqDiff, reduceIte, Nat.reduceAdd, List.map_toArray, List.map_cons, List.map_nil, Bool.false_eq_true, Nat.reduceBEq, Option.map_some, Option.map_none, reduceCtorEq, al26, ap24_24, bd26, bs24_1, fa26_1, ix86, ld24, ld26, ln86, st24, st26, implNeutral_eq, es1, h1, h2, h3, h4, h5, ki, wi, q8.rd 2 rfl, q8.rd 4 rfl]
      refine st_app q8 1 rfl (q8.int 0 rfl) (by (try simp only [List.length_cons, List.length_nil, List.length_append, List.length_replicate, List.length_map, List.length_take, List.length_drop]); omega) fun a2 c2 H7 q9 => ?_
      simp only [List.set_cons_zero, List.set_cons_succ, List.length_nil, List.length_cons, Nat.zero_add, List.nil_append] at q9 ⊢
      simp -implicitDefEqProofs only [kk0, kk1, kk2, kk3, rW_block, ↓two_true, ↓two_false, rW_cond, rO_guard, mkv, aggAt, Nat.reduceLeDiff, Nat.reduceSub, Nat.reduceMul, cond_true, cond_false, Option.bind_some, List.length_append, List.length_cons, List.length_nil, List.append_assoc, List.cons_append, List.nil_append, List.set_cons_zero, List.set_cons_succ, List.size_toArray, List.all_cons, List.all_nil, List.drop_zero, List.drop_succ_cons, List.take_succ_cons, List.take_zero, List.mem_cons, Prod.mk.injEq, List.not_mem_nil, implies_true, List.getElem?_toArray, List.getElem?_cons_zero, List.getElem?_cons_succ, List.getElem?_nil, Option.getD_some, Option.getD_none, Nat.reduceEqDiff, reduceIte, Nat.reduceAdd, List.map_toArray, List.map_cons, List.map_nil, Bool.false_eq_true, Nat.reduceBEq, Option.map_some, Option.map_none, reduceCtorEq, al26, ap24_24, bd26, bs24_1, fa26_1, ix86, ld24, ld26, ln86, st24, st26, implNeutral_eq, es1, h1, h2, h3, h4, h5, ki, wi, q9.rd 2 rfl, q9.rd 4 rfl]
      refine st_set q9 2 rfl fun H8 q10 => ?_
      simp only [List.set_cons_zero, List.set_cons_succ] at q10
      simp -implicitDefEqProofs only [kk0, kk1, kk2, kk3, rW_block, ↓two_true, ↓two_false, rW_cond, rO_guard, mkv, aggAt, Nat.reduceLeDiff, Nat.reduceSub, Nat.reduceMul, cond_true, cond_false, Option.bind_some, List.length_append, List.length_cons, List.length_nil, List.append_assoc, List.cons_append, List.nil_append, List.set_cons_zero, List.set_cons_succ, List.size_toArray, List.all_cons, List.all_nil, List.drop_zero, List.drop_succ_cons, List.take_succ_cons, List.take_zero, List.mem_cons, Prod.mk.injEq, List.not_mem_nil, implies_true, List.getElem?_toArray, List.getElem?_cons_zero, List.getElem?_cons_succ, List.getElem?_nil, Option.getD_some, Option.getD_none, Nat.reduceEqDiff, reduceIte, Nat.reduceAdd, List.map_toArray, List.map_cons, List.map_nil, Bool.false_eq_true, Nat.reduceBEq, Option.map_some, Option.map_none, reduceCtorEq, al26, ap24_24, bd26, bs24_1, fa26_1, ix86, ld24, ld26, ln86, st24, st26, implNeutral_eq, es1, h1, h2, h3, h4, h5, ki, wi, q10.rd 2 rfl, q10.rd 4 rfl]
      -- back loop1
      refine ⟨(i + 1, a2, c2), (by simp only; omega), ⟨rfl, rfl, rfl, rfl, rfl, trivial⟩, ⟨by first | rfl | simp, by simp only; omega⟩, ?_⟩
      simp only [List.set_cons_zero, List.set_cons_succ, List.replicate_succ', List.length_append, List.length_cons, List.length_nil, Nat.zero_add]
      exact q10.pick [1, 2, 3, 4] _ rfl (by decide)
    ·
      have hil : i = (sizeI sh).toNat := by have : ¬ (i : Int) < sizeI sh := (by simpa using u2); omega
      subst hil
      try simp -implicitDefEqProofs only [kk0, kk1, kk2, kk3, rW_block, ↓two_true, ↓two_false, rW_cond, rO_guard, mkv, aggAt, Nat.reduceLeDiff, Nat.reduceSub, Nat.reduceMul, cond_true, cond_false, Option.bind_some, List.length_append, List.length_cons, List.length_nil, List.append_assoc, List.cons_append, List.nil_append, List.set_cons_zero, List.set_cons_succ, List.size_toArray, List.all_cons, List.all_nil, List.drop_zero, List.drop_succ_cons, List.take_succ_cons, List.take_zero, List.mem_cons, Prod.mk.injEq, List.not_mem_nil, implies_true, List.getElem?_toArray, List.getElem?_cons_zero, List.getElem?_cons_succ, List.getElem?_nil, Option.getD_some, Option.getD_none, Nat.reduceEqDiff, reduceIte, Nat.reduceAdd, List.map_toArray, List.map_cons, List.map_nil, Bool.false_eq_true, Nat.reduceBEq, Option.map_some, Option.map_none, reduceCtorEq, al26, ap24_24, bd26, bs24_1, fa26_1, ix86, ld24, ld26, ln86, st24, st26, implNeutral_eq, es1, h1, h2, h3, h4, h5, ki, wi, q7.rd 1 rfl, q7.rd 3 rfl]
      refine (implOk_ar (q7.ar 2 0 rfl rfl (by (try simp only [List.length_cons, List.length_nil, List.length_append, List.length_replicate, List.length_map, List.length_take, List.length_drop]); omega) (by (try simp only [List.length_cons, List.length_nil, List.length_append, List.length_replicate, List.length_map, List.length_take, List.length_drop]); omega))).mono ?_
      rintro _ H9 ⟨rfl, he1⟩
      have q11 := q7.extd he1
      simp -implicitDefEqProofs only [kk0, kk1, kk2, kk3, rW_block, ↓two_true, ↓two_false, rW_cond, rO_guard, mkv, aggAt, Nat.reduceLeDiff, Nat.reduceSub, Nat.reduceMul, cond_true, cond_false, Option.bind_some, List.length_append, List.length_cons, List.length_nil, List.append_assoc, List.cons_append, List.nil_append, List.set_cons_zero, List.set_cons_succ, List.size_toArray, List.all_cons, List.all_nil, List.drop_zero, List.drop_succ_cons, List.take_succ_cons, List.take_zero, List.mem_cons, Prod.mk.injEq, List.not_mem_nil, implies_true, List.getElem?_toArray, List.getElem?_cons_zero, List.getElem?_cons_succ, List.getElem?_nil, Option.getD_some, Option.getD_none, Nat.reduceEqDiff, reduceIte, Nat.reduceAdd, List.map_toArray, List.map_cons, List.map_nil, Bool.false_eq_true, Nat.reduceBEq, Option.map_some, Option.map_none, reduceCtorEq, al26, ap24_24, bd26, bs24_1, fa26_1, ix86, ld24, ld26, ln86, st24, st26, implNeutral_eq, es1, h1, h2, h3, h4, h5, ki, wi, q11.rd 1 rfl, q11.rd 3 rfl]
      refine two_intro (fun u3 => ?_) (fun u3 => ?_)
      ·
        try simp -implicitDefEqProofs only [kk0, kk1, kk2, kk3, rW_block, ↓two_true, ↓two_false, rW_cond, rO_guard, mkv, aggAt, Nat.reduceLeDiff, Nat.reduceSub, Nat.reduceMul, cond_true, cond_false, Option.bind_some, List.length_append, List.length_cons, List.length_nil, List.append_assoc, List.cons_append, List.nil_append, List.set_cons_zero, List.set_cons_succ, List.size_toArray, List.all_cons, List.all_nil, List.drop_zero, List.drop_succ_cons, List.take_succ_cons, List.take_zero, List.mem_cons, Prod.mk.injEq, List.not_mem_nil, implies_true, List.getElem?_toArray, List.getElem?_cons_zero, List.getElem?_cons_succ, List.getElem?_nil, Option.getD_some, Option.getD_none, Nat.reduceEqDiff, reduceIte, Nat.reduceAdd, List.map_toArray, List.map_cons, List.map_nil, Bool.false_eq_true, Nat.reduceBEq, Option.map_some, Option.map_none, reduceCtorEq, al26, ap24_24, bd26, bs24_1, fa26_1, ix86, ld24, ld26, ln86, st24, st26, implNeutral_eq, es1, h1, h2, h3, h4, h5, ki, wi, q11.rd 1 rfl, q11.rd 3 rfl]
        refine st_set q11 3 rfl fun H10 q12 => ?_
        simp only [List.set_cons_zero, List.set_cons_succ] at q12
        simp -implicitDefEqProofs only [kk0, kk1, kk2, kk3, rW_block, ↓two_true, ↓two_false, rW_cond, rO_guard, mkv, aggAt, Nat.reduceLeDiff, Nat.reduceSub, Nat.reduceMul, cond_true, cond_false, Option.bind_some, List.length_append, List.length_cons, List.length_nil, List.append_assoc, List.cons_append, List.nil_append, List.set_cons_zero, List.set_cons_succ, List.size_toArray, List.all_cons, List.all_nil, List.drop_zero, List.drop_succ_cons, List.take_succ_cons, List.take_zero, List.mem_cons, Prod.mk.injEq, List.not_mem_nil, implies_true, List.getElem?_toArray, List.getElem?_cons_zero, List.getElem?_cons_succ, List.getElem?_nil, Option.getD_some, Option.getD_none, Nat.reduceEqDiff, reduceIte, Nat.reduceAdd, List.map_toArray, List.map_cons, List.map_nil, Bool.false_eq_true, Nat.reduceBEq, Option.map_some, Option.map_none, reduceCtorEq, al26, ap24_24, bd26, bs24_1, fa26_1, ix86, ld24, ld26, ln86, st24, st26, implNeutral_eq, es1, h1, h2, h3, h4, h5, ki, wi, q12.rd 1 rfl, q12.rd 3 rfl]
        -- end1
        exfalso
        rw [arrOk_neu (hsz hr0)] at u3
        cases u3
      ·
        try simp -implicitDefEqProofs only [kk0, kk1, kk2, kk3, rW_block, ↓two_true, ↓two_false, rW_cond, rO_guard, mkv, aggAt, Nat.reduceLeDiff, Nat.reduceSub, Nat.reduceMul, cond_true, cond_false, Option.bind_some, List.length_append, List.length_cons, List.length_nil, List.append_assoc, List.cons_append, List.nil_append, List.set_cons_zero, List.set_cons_succ, List.size_toArray, List.all_cons, List.all_nil, List.drop_zero, List.drop_succ_cons, List.take_succ_cons, List.take_zero, List.mem_cons, Prod.mk.injEq, List.not_mem_nil, implies_true, List.getElem?_toArray, List.getElem?_cons_zero, List.getElem?_cons_succ, List.getElem?_nil, Option.getD_some, Option.getD_none, Nat.reduceEqDiff, reduceIte, Nat.reduceAdd, List.map_toArray, List.map_cons, List.map_nil, Bool.false_eq_true, Nat.reduceBEq, Option.map_some, Option.map_none, reduceCtorEq, al26, ap24_24, bd26, bs24_1, fa26_1, ix86, ld24, ld26, ln86, st24, st26, implNeutral_eq, es1, h1, h2, h3, h4, h5, ki, wi, q11.rd 1 rfl, q11.rd 3 rfl]
        refine st_set q11 3 rfl fun H11 q13 => ?_
        simp only [List.set_cons_zero, List.set_cons_succ] at q13
        simp -implicitDefEqProofs only [kk0, kk1, kk2, kk3, rW_block, ↓two_true, ↓two_false, rW_cond, rO_guard, mkv, aggAt, Nat.reduceLeDiff, Nat.reduceSub, Nat.reduceMul, cond_true, cond_false, Option.bind_some, List.length_append, List.length_cons, List.length_nil, List.append_assoc, List.cons_append, List.nil_append, List.set_cons_zero, List.set_cons_succ, List.size_toArray, List.all_cons, List.all_nil, List.drop_zero, List.drop_succ_cons, List.take_succ_cons, List.take_zero, List.mem_cons, Prod.mk.injEq, List.not_mem_nil, implies_true, List.getElem?_toArray, List.getElem?_cons_zero, List.getElem?_cons_succ, List.getElem?_nil, Option.getD_some, Option.getD_none, Nat.reduceEqDiff, reduceIte, Nat.reduceAdd, List.map_toArray, List.map_cons, List.map_nil, Bool.false_eq_true, Nat.reduceBEq, Option.map_some, Option.map_none, reduceCtorEq, al26, ap24_24, bd26, bs24_1, fa26_1, ix86, ld24, ld26, ln86, st24, st26, implNeutral_eq, es1, h1, h2, h3, h4, h5, ki, wi, q13.rd 1 rfl, q13.rd 3 rfl]
        -- end2
        exact q13.ans 2 0 (by decide) rfl rfl (by unfold redR; rw [if_pos hr0])
  ·
    have hr0 : rs.length ≠ 0 := by simpa using u1
    have hr1 : 0 < rs.length := by omega
    obtain ⟨n, hn⟩ : ∃ n, rs.length = n + 1 := ⟨rs.length - 1, by omega⟩
    have w1 : IntKind.i64.wrap ((rs.length : Int) - 1) = (n : Int) := by rw [IntWalk.i64_in _ (by omega)]; omega
    have w2 : IntKind.i64.wrap ((rs.length : Int) - 2) = (n : Int) - 1 := by rw [IntWalk.i64_in _ (by omega)]; omega
    obtain ⟨b1, o1, cs1, p1, p2, ei1, fr1, fc1, fc2, fi1, fi2⟩ := ixR r (i := n) (by omega)
    obtain ⟨a3, c3, rfl, -⟩ := fi1.op
    obtain ⟨a4, c4, rfl, -⟩ := fi2.op
    try simp -implicitDefEqProofs only [kk0, kk1, kk2, kk3, rW_block, ↓two_true, ↓two_false, rW_cond, rO_guard, mkv, aggAt, Nat.reduceLeDiff, Nat.reduceSub, Nat.reduceMul, cond_true, cond_false, Option.bind_some, List.length_append, List.length_cons, List.length_nil, List.append_assoc, List.cons_append, List.nil_append, List.set_cons_zero, List.set_cons_succ, List.size_toArray, List.all_cons, List.all_nil, List.drop_zero, List.drop_succ_cons, List.take_succ_cons, List.take_zero, List.mem_cons, Prod.mk.injEq, List.not_mem_nil, implies_true, List.getElem?_toArray, List.getElem?_cons_zero, List.getElem?_cons_succ, List.getElem?_nil, Option.getD_some, Option.getD_none, Nat.reduceEqDiff, reduceIte, Nat.reduceAdd, List.map_toArray, List.map_cons, List.map_nil, Bool.false_eq_true, Nat.reduceBEq, Option.map_some, Option.map_none, reduceCtorEq, al26, ap24_24, bd26, bs24_1, fa26_1, ix86, ld24, ld26, ln86, st24, st26, implNeutral_eq, w1, w2, ei1, rd_ext fr1 q1.ext, fc1, fc2, ldA2 fc1 fc2, q1.rd 0 rfl]
    refine (copyA_ok (AR.mk (fi1.ext q1.ext) (fi2.ext q1.ext) (hrl _ (List.getElem_mem _)).1 (hrl _ (List.getElem_mem _)).2)).mono ?_
    rintro _ H12 ⟨p3, p4, rfl, g1⟩
    have q14 := q1.join g1
    simp only [List.map_cons, List.map_nil, List.cons_append, List.nil_append] at q14
    obtain ⟨a5, c5, rfl⟩ := (q14.own 0 rfl).isSlice
    obtain ⟨a6, c6, rfl⟩ := (q14.own 1 rfl).isSlice
    simp -implicitDefEqProofs only [kk0, kk1, kk2, kk3, rW_block, ↓two_true, ↓two_false, rW_cond, rO_guard, mkv, aggAt, Nat.reduceLeDiff, Nat.reduceSub, Nat.reduceMul, cond_true, cond_false, Option.bind_some, List.length_append, List.length_cons, List.length_nil, List.append_assoc, List.cons_append, List.nil_append, List.set_cons_zero, List.set_cons_succ, List.size_toArray, List.all_cons, List.all_nil, List.drop_zero, List.drop_succ_cons, List.take_succ_cons, List.take_zero, List.mem_cons, Prod.mk.injEq, List.not_mem_nil, implies_true, List.getElem?_toArray, List.getElem?_cons_zero, List.getElem?_cons_succ, List.getElem?_nil, Option.getD_some, Option.getD_none, Nat.reduceEqDiff, reduceIte, Nat.reduceAdd, List.map_toArray, List.map_cons, List.map_nil, Bool.false_eq_true, Nat.reduceBEq, Option.map_some, Option.map_none, reduceCtorEq, al26, ap24_24, bd26, bs24_1, fa26_1, ix86, ld24, ld26, ln86, st24, st26, implNeutral_eq, w1, w2, ei1, rd_ext fr1 q14.ext, fc1, fc2, ldA2 fc1 fc2, q14.rd 2 rfl]
    try simp -implicitDefEqProofs only [kk0, kk1, kk2, kk3, rW_block, ↓two_true, ↓two_false, rW_cond, rO_guard, mkv, aggAt, Nat.reduceLeDiff, Nat.reduceSub, Nat.reduceMul, cond_true, cond_false, Option.bind_some, List.length_append, List.length_cons, List.length_nil, List.append_assoc, List.cons_append, List.nil_append, List.set_cons_zero, List.set_cons_succ, List.size_toArray, List.all_cons, List.all_nil, List.drop_zero, List.drop_succ_cons, List.take_succ_cons, List.take_zero, List.mem_cons, Prod.mk.injEq, List.not_mem_nil, implies_true, List.getElem?_toArray, List.getElem?_cons_zero, List.getElem?_cons_succ, List.getElem?_nil, Option.getD_some, Option.getD_none, Nat.reduceEqDiff, reduceIte, Nat.reduceAdd, List.map_toArray, List.map_cons, List.map_nil, Bool.false_eq_true, Nat.reduceBEq, Option.map_some, Option.map_none, reduceCtorEq, al26, ap24_24, bd26, bs24_1, fa26_1, ix86, ld24, ld26, ln86, st24, st26, implNeutral_eq, w1, w2, ei1, rd_ext fr1 q14.ext, fc1, fc2, ldA2 fc1 fc2, q14.rd 2 rfl]
    refine st_box q14 fun H13 q15 => ?_
    simp -implicitDefEqProofs only [kk0, kk1, kk2, kk3, rW_block, ↓two_true, ↓two_false, rW_cond, rO_guard, mkv, aggAt, Nat.reduceLeDiff, Nat.reduceSub, Nat.reduceMul, cond_true, cond_false, Option.bind_some, List.length_append, List.length_cons, List.length_nil, List.append_assoc, List.cons_append, List.nil_append, List.set_cons_zero, List.set_cons_succ, List.size_toArray, List.all_cons, List.all_nil, List.drop_zero, List.drop_succ_cons, List.take_succ_cons, List.take_zero, List.mem_cons, Prod.mk.injEq, List.not_mem_nil, implies_true, List.getElem?_toArray, List.getElem?_cons_zero, List.getElem?_cons_succ, List.getElem?_nil, Option.getD_some, Option.getD_none, Nat.reduceEqDiff, reduceIte, Nat.reduceAdd, List.map_toArray, List.map_cons, List.map_nil, Bool.false_eq_true, Nat.reduceBEq, Option.map_some, Option.map_none, reduceCtorEq, al26, ap24_24, bd26, bs24_1, fa26_1, ix86, ld24, ld26, ln86, st24, st26, implNeutral_eq, w1, w2, ei1, rd_ext fr1 q15.ext, fc1, fc2, ldA2 fc1 fc2, q15.rd 0 rfl, q15.rd 3 rfl]
    refine st_set q15 0 rfl fun H14 q16 => ?_
    simp only [List.set_cons_zero, List.set_cons_succ] at q16
    simp -implicitDefEqProofs only [kk0, kk1, kk2, kk3, rW_block, ↓two_true, ↓two_false, rW_cond, rO_guard, mkv, aggAt, Nat.reduceLeDiff, Nat.reduceSub, Nat.reduceMul, cond_true, cond_false, Option.bind_some, List.length_append, List.length_cons, List.length_nil, List.append_assoc, List.cons_append, List.nil_append, List.set_cons_zero, List.set_cons_succ, List.size_toArray, List.all_cons, List.all_nil, List.drop_zero, List.drop_succ_cons, List.take_succ_cons, List.take_zero, List.mem_cons, Prod.mk.injEq, List.not_mem_nil, implies_true, List.getElem?_toArray, List.getElem?_cons_zero, List.getElem?_cons_succ, List.getElem?_nil, Option.getD_some, Option.getD_none, Nat.reduceEqDiff, reduceIte, Nat.reduceAdd, List.map_toArray, List.map_cons, List.map_nil, Bool.false_eq_true, Nat.reduceBEq, Option.map_some, Option.map_none, reduceCtorEq, al26, ap24_24, bd26, bs24_1, fa26_1, ix86, ld24, ld26, ln86, st24, st26, implNeutral_eq, w1, w2, ei1, rd_ext fr1 q16.ext, fc1, fc2, ldA2 fc1 fc2, q16.rd 0 rfl, q16.rd 3 rfl]
    refine rW_loopQ (σ := Nat × (List Int × List Int) × (Option Addr × Nat) × (Option Addr × Nat)) q16 [0, 1, 6, 12] (fun x tm => tm 13 = .int .i64 ((x.1 : Int) - 1) ∧ x.1 < rs.length ∧ redL s (rs.drop x.1) = (x.2.1, 0) ∧ x.2.1.1.length ≤ 1048576 ∧ x.2.1.2.length ≤ 1048576) (fun x L => ((L.set 0 (.own (.box H12.length [.slice x.2.2.1.1 x.2.1.1.length x.2.2.1.2, .slice x.2.2.2.1 x.2.1.2.length x.2.2.2.2]))).set 1 (.own (.row (.slice x.2.2.1.1 x.2.1.1.length x.2.2.1.2) x.2.1.1))).set 2 (.own (.row (.slice x.2.2.2.1 x.2.1.2.length x.2.2.2.2) x.2.1.2))) (fun x => x.1) (n, rs[n], (a5, c5), (a6, c6)) ⟨rfl, by simp only; omega, by have := redL_last (s := s) hr1; simpa [hn] using this, (hrl _ (List.getElem_mem _)).1, (hrl _ (List.getElem_mem _)).2⟩ rfl ?_
    rintro ⟨k, ⟨S, D⟩, ⟨av, cv⟩, aw, cw⟩ tm2 H15 ⟨h6, h7, h8, h9, -⟩ ⟨ki, hk1, hred, hS1, hD1⟩ q17
    simp -implicitDefEqProofs only [kk0, kk1, kk2, kk3, rW_block, ↓two_true, ↓two_false, rW_cond, rO_guard, mkv, aggAt, Nat.reduceLeDiff, Nat.reduceSub, Nat.reduceMul, cond_true, cond_false, Option.bind_some, List.length_append, List.length_cons, List.length_nil, List.append_assoc, List.cons_append, List.nil_append, List.set_cons_zero, List.set_cons_succ, List.size_toArray, List.all_cons, List.all_nil, List.drop_zero, List.drop_succ_cons, List.take_succ_cons, List.take_zero, List.mem_cons, Prod.mk.injEq, List.not_mem_nil, implies_true, List.getElem?_toArray, List.getElem?_cons_zero, List.getElem?_cons_succ, List.getElem?_nil, Option.getD_some, Option.getD_none, Nat.reduceEqDiff, reduceIte, Nat.reduceAdd, List.map_toArray, List.map_cons, List.map_nil, Bool.false_eq_true, Nat.reduceBEq, Option.map_some, Option.map_none, reduceCtorEq, al26, ap24_24, bd26, bs24_1, fa26_1, ix86, ld24, ld26, ln86, st24, st26, w1, w2, ei1, rd_ext fr1 q16.ext, fc1, fc2, ldA2 fc1 fc2] at h6 h7 h8 h9
    simp only [List.set_cons_zero, List.set_cons_succ] at q17
    simp only at ki hk1 hred hS1 hD1
    simp -implicitDefEqProofs only [kk0, kk1, kk2, kk3, rW_block, ↓two_true, ↓two_false, rW_cond, rO_guard, mkv, aggAt, Nat.reduceLeDiff, Nat.reduceSub, Nat.reduceMul, cond_true, cond_false, Option.bind_some, List.length_append, List.length_cons, List.length_nil, List.append_assoc, List.cons_append, List.nil_append, List.set_cons_zero, List.set_cons_succ, List.size_toArray, List.all_cons, List.all_nil, List.drop_zero, List.drop_succ_cons, List.take_succ_cons, List.take_zero, List.mem_cons, Prod.mk.injEq, List.not_mem_nil, implies_true, List.getElem?_toArray, List.getElem?_cons_zero, List.getElem?_cons_succ, List.getElem?_nil, Option.getD_some, Option.getD_none, Nat.reduceEqDiff, reduceIte, Nat.reduceAdd, List.map_toArray, List.map_cons, List.map_nil, Bool.false_eq_true, Nat.reduceBEq, Option.map_some, Option.map_none, reduceCtorEq, al26, ap24_24, bd26, bs24_1, fa26_1, ix86, ld24, ld26, ln86, st24, st26, implNeutral_eq, w1, w2, ei1, rd_ext fr1 q17.ext, fc1, fc2, ldA2 fc1 fc2, h6, h7, h8, h9, ki, q17.rd 0 rfl, q17.rd 3 rfl]
    refine two_intro (fun u4 => ?_) (fun u4 => ?_)
    ·
      have hk : 0 ≤ (k : Int) - 1 := by simpa using u4
      obtain ⟨j, rfl⟩ : ∃ j, k = j + 1 := ⟨k - 1, by omega⟩
      have e1 : ((j + 1 : Nat) : Int) - 1 = (j : Int) := by omega
      have wj : IntKind.i64.wrap ((j : Int) - 1) = (j : Int) - 1 := IntWalk.i64_in _ (by omega)
      have hjn : j < rs.length := by omega
      obtain ⟨b2, o2, cs2, p5, p6, ei2, fr2, fc3, fc4, fi3, fi4⟩ := ixR r hjn
      obtain ⟨a7, c7, rfl, -⟩ := fi3.op
      obtain ⟨a8, c8, rfl, -⟩ := fi4.op
      try simp -implicitDefEqProofs only [kk0, kk1, kk2, kk3, rW_block, ↓two_true, ↓two_false, rW_cond, rO_guard, mkv, aggAt, Nat.reduceLeDiff, Nat.reduceSub, Nat.reduceMul, cond_true, cond_false, Option.bind_some, List.length_append, List.length_cons, List.length_nil, List.append_assoc, List.cons_append, List.nil_append, List.set_cons_zero, List.set_cons_succ, List.size_toArray, List.all_cons, List.all_nil, List.drop_zero, List.drop_succ_cons, List.take_succ_cons, List.take_zero, List.mem_cons, Prod.mk.injEq, List.not_mem_nil, implies_true, List.getElem?_toArray, List.getElem?_cons_zero, List.getElem?_cons_succ, List.getElem?_nil, Option.getD_some, Option.getD_none, Nat.reduceEqDiff, reduceIte, Nat.reduceAdd, List.map_toArray, List.map_cons, List.map_nil, Bool.false_eq_true, Nat.reduceBEq, Option.map_some, Option.map_none, reduceCtorEq, al26, ap24_24, bd26, bs24_1, fa26_1, ix86, ld24, ld26, ln86, st24, st26, implNeutral_eq, w1, w2, ei1, rd_ext fr1 q17.ext, fc1, fc2, ldA2 fc1 fc2, ei2, rd_ext fr2 q17.ext, fc3, fc4, ldA2 fc3 fc4, h6, h7, h8, h9, ki, e1, wj, q17.rd 0 rfl, q17.rd 3 rfl]
      refine (implEachTwo_ok  (AR.mk (fi3.ext q17.ext) (fi4.ext q17.ext) (hrl _ (List.getElem_mem _)).1 (hrl _ (List.getElem_mem _)).2) (q17.ar 1 2 rfl rfl (by (try simp only [List.length_cons, List.length_nil, List.length_append, List.length_replicate, List.length_map, List.length_take, List.length_drop]); omega) (by (try simp only [List.length_cons, List.length_nil, List.length_append, List.length_replicate, List.length_map, List.length_take, List.length_drop]); omega))).mono ?_
      rintro _ H16 ⟨p7, p8, rfl, g2⟩
      obtain ⟨R1, hR1⟩ : ∃ R, each2R s rs[j].1 rs[j].2 S D = R := ⟨_, rfl⟩
      rw [hR1] at g2 ⊢
      have q18 := q17.join g2
      simp only [List.map_cons, List.map_nil, List.cons_append, List.nil_append] at q18
      obtain ⟨a9, c9, rfl⟩ := (q18.own 0 rfl).isSlice
      obtain ⟨a10, c10, rfl⟩ := (q18.own 1 rfl).isSlice
      obtain ⟨hl1, hl2⟩ := each2R_lim hR1
      simp -implicitDefEqProofs only [kk0, kk1, kk2, kk3, rW_block, ↓two_true, ↓two_false, rW_cond, rO_guard, mkv, aggAt, Nat.reduceLeDiff, Nat.reduceSub, Nat.reduceMul, cond_true, cond_false, Option.bind_some, List.length_append, List.length_cons, List.length_nil, List.append_assoc, List.cons_append, List.nil_append, List.set_cons_zero, List.set_cons_succ, List.size_toArray, List.all_cons, List.all_nil, List.drop_zero, List.drop_succ_cons, List.take_succ_cons, List.take_zero, List.mem_cons, Prod.mk.injEq, List.not_mem_nil, implies_true, List.getElem?_toArray, List.getElem?_cons_zero, List.getElem?_cons_succ, List.getElem?_nil, Option.getD_some, Option.getD_none, Nat.reduceEqDiff, reduceIte, Nat.reduceAdd, List.map_toArray, List.map_cons, List.map_nil, Bool.false_eq_true, Nat.reduceBEq, Option.map_some, Option.map_none, reduceCtorEq, al26, ap24_24, bd26, bs24_1, fa26_1, ix86, ld24, ld26, ln86, st24, st26, implNeutral_eq, w1, w2, ei1, rd_ext fr1 q18.ext, fc1, fc2, ldA2 fc1 fc2, ei2, rd_ext fr2 q18.ext, fc3, fc4, ldA2 fc3 fc4, h6, h7, h8, h9, ki, e1, wj, q18.rd 2 rfl, q18.rd 5 rfl, q17.rd 0 rfl, q17.rd 3 rfl]
      refine st_box q18 fun H17 q19 => ?_
      simp -implicitDefEqProofs only [kk0, kk1, kk2, kk3, rW_block, ↓two_true, ↓two_false, rW_cond, rO_guard, mkv, aggAt, Nat.reduceLeDiff, Nat.reduceSub, Nat.reduceMul, cond_true, cond_false, Option.bind_some, List.length_append, List.length_cons, List.length_nil, List.append_assoc, List.cons_append, List.nil_append, List.set_cons_zero, List.set_cons_succ, List.size_toArray, List.all_cons, List.all_nil, List.drop_zero, List.drop_succ_cons, List.take_succ_cons, List.take_zero, List.mem_cons, Prod.mk.injEq, List.not_mem_nil, implies_true, List.getElem?_toArray, List.getElem?_cons_zero, List.getElem?_cons_succ, List.getElem?_nil, Option.getD_some, Option.getD_none, Nat.reduceEqDiff, reduceIte, Nat.reduceAdd, List.map_toArray, List.map_cons, List.map_nil, Bool.false_eq_true, Nat.reduceBEq, Option.map_some, Option.map_none, reduceCtorEq, al26, ap24_24, bd26, bs24_1, fa26_1, ix86, ld24, ld26, ln86, st24, st26, implNeutral_eq, w1, w2, ei1, rd_ext fr1 q19.ext, fc1, fc2, ldA2 fc1 fc2, ei2, rd_ext fr2 q19.ext, fc3, fc4, ldA2 fc3 fc4, h6, h7, h8, h9, ki, e1, wj, q19.rd 0 rfl, q19.rd 3 rfl, q19.rd 6 rfl, q17.rd 0 rfl, q17.rd 3 rfl, q18.rd 2 rfl, q18.rd 5 rfl]
      refine st_set q19 0 rfl fun H18 q20 => ?_
      simp only [List.set_cons_zero, List.set_cons_succ] at q20
      simp -implicitDefEqProofs only [kk0, kk1, kk2, kk3, rW_block, ↓two_true, ↓two_false, rW_cond, rO_guard, mkv, aggAt, Nat.reduceLeDiff, Nat.reduceSub, Nat.reduceMul, cond_true, cond_false, Option.bind_some, List.length_append, List.length_cons, List.length_nil, List.append_assoc, List.cons_append, List.nil_append, List.set_cons_zero, List.set_cons_succ, List.size_toArray, List.all_cons, List.all_nil, List.drop_zero, List.drop_succ_cons, List.take_succ_cons, List.take_zero, List.mem_cons, Prod.mk.injEq, List.not_mem_nil, implies_true, List.getElem?_toArray, List.getElem?_cons_zero, List.getElem?_cons_succ, List.getElem?_nil, Option.getD_some, Option.getD_none, Nat.reduceEqDiff, reduceIte, Nat.reduceAdd, List.map_toArray, List.map_cons, List.map_nil, Bool.false_eq_true, Nat.reduceBEq, Option.map_some, Option.map_none, reduceCtorEq, al26, ap24_24, bd26, bs24_1, fa26_1, ix86, ld24, ld26, ln86, st24, st26, implNeutral_eq, w1, w2, ei1, rd_ext fr1 q20.ext, fc1, fc2, ldA2 fc1 fc2, ei2, rd_ext fr2 q20.ext, fc3, fc4, ldA2 fc3 fc4, h6, h7, h8, h9, ki, e1, wj, q20.rd 0 rfl, q20.rd 3 rfl, q20.rd 6 rfl, q17.rd 0 rfl, q17.rd 3 rfl, q18.rd 2 rfl, q18.rd 5 rfl, q19.rd 0 rfl, q19.rd 3 rfl, q19.rd 6 rfl]
      try simp -implicitDefEqProofs only [kk0, kk1, kk2, kk3, rW_block, ↓two_true, ↓two_false, rW_cond, rO_guard, mkv, aggAt, Nat.reduceLeDiff, Nat.reduceSub, Nat.reduceMul, cond_true, cond_false, Option.bind_some, List.length_append, List.length_cons, List.length_nil, List.append_assoc, List.cons_append, List.nil_append, List.set_cons_zero, List.set_cons_succ, List.size_toArray, List.all_cons, List.all_nil, List.drop_zero, List.drop_succ_cons, List.take_succ_cons, List.take_zero, List.mem_cons, Prod.mk.injEq, List.not_mem_nil, implies_true, List.getElem?_toArray, List.getElem?_cons_zero, List.getElem?_cons_succ, List.getElem?_nil, Option.getD_some, Option.getD_none, Nat.reduceEqDiff, reduceIte, Nat.reduceAdd, List.map_toArray, List.map_cons, List.map_nil, Bool.false_eq_true, Nat.reduceBEq, Option.map_some, Option.map_none, reduceCtorEq, al26, ap24_24, bd26, bs24_1, fa26_1, ix86, ld24, ld26, ln86, st24, st26, implNeutral_eq, w1, w2, ei1, rd_ext fr1 q20.ext, fc1, fc2, ldA2 fc1 fc2, ei2, rd_ext fr2 q20.ext, fc3, fc4, ldA2 fc3 fc4, h6, h7, h8, h9, ki, e1, wj, q20.rd 0 rfl, q20.rd 3 rfl, q20.rd 6 rfl]
      refine two_intro (fun u5 => ?_) (fun u5 => ?_)
      ·
        have hne : R1.2 ≠ 0 := by simpa using u5
        have hst := redL_drop (s := s) (rs := rs) (k := j) hk1
        rw [hred] at hst
        unfold redS at hst
        rw [if_pos rfl, hR1] at hst
        have hfin := redL_err (s := s) hjn (by rw [hst]; exact hne)
        rw [hst] at hfin
        have h12 := each2R_err (s := s) (sa := rs[j].1) (da := rs[j].2) (sb := S) (db := D) (by rw [hR1]; exact hne)
        rw [hR1] at h12
        try simp -implicitDefEqProofs only [kk0, kk1, kk2, kk3, rW_block, ↓two_true, ↓two_false, rW_cond, rO_guard, mkv, aggAt, Nat.reduceLeDiff, Nat.reduceSub, Nat.reduceMul, cond_true, cond_false, Option.bind_some, List.length_append, List.length_cons, List.length_nil, List.append_assoc, List.cons_append, List.nil_append, List.set_cons_zero, List.set_cons_succ, List.size_toArray, List.all_cons, List.all_nil, List.drop_zero, List.drop_succ_cons, List.take_succ_cons, List.take_zero, List.mem_cons, Prod.mk.injEq, List.not_mem_nil, implies_true, List.getElem?_toArray, List.getElem?_cons_zero, List.getElem?_cons_succ, List.getElem?_nil, Option.getD_some, Option.getD_none, Nat.reduceEqDiff, reduceIte, Nat.reduceAdd, List.map_toArray, List.map_cons, List.map_nil, Bool.false_eq_true, Nat.reduceBEq, Option.map_some, Option.map_none, reduceCtorEq, al26, ap24_24, bd26, bs24_1, fa26_1, ix86, ld24, ld26, ln86, st24, st26, implNeutral_eq, w1, w2, ei1, rd_ext fr1 q20.ext, fc1, fc2, ldA2 fc1 fc2, ei2, rd_ext fr2 q20.ext, fc3, fc4, ldA2 fc3 fc4, h6, h7, h8, h9, ki, e1, wj, q20.rd 0 rfl, q20.rd 3 rfl, q20.rd 6 rfl]
        refine st_set q20 6 rfl fun H19 q21 => ?_
        simp only [List.set_cons_zero, List.set_cons_succ] at q21
        simp -implicitDefEqProofs only [kk0, kk1, kk2, kk3, rW_block, ↓two_true, ↓two_false, rW_cond, rO_guard, mkv, aggAt, Nat.reduceLeDiff, Nat.reduceSub, Nat.reduceMul, cond_true, cond_false, Option.bind_some, List.length_append, List.length_cons, List.length_nil, List.append_assoc, List.cons_append, List.nil_append, List.set_cons_zero, List.set_cons_succ, List.size_toArray, List.all_cons, List.all_nil, List.drop_zero, List.drop_succ_cons, List.take_succ_cons, List.take_zero, List.mem_cons, Prod.mk.injEq, List.not_mem_nil, implies_true, List.getElem?_toArray, List.getElem?_cons_zero, List.getElem?_cons_succ, List.getElem?_nil, Option.getD_some, Option.getD_none, Nat.reduceEqDiff, reduceIte, Nat.reduceAdd, List.map_toArray, List.map_cons, List.map_nil, Bool.false_eq_true, Nat.reduceBEq, Option.map_some, Option.map_none, reduceCtorEq, al26, ap24_24, bd26, bs24_1, fa26_1, ix86, ld24, ld26, ln86, st24, st26, implNeutral_eq, w1, w2, ei1, rd_ext fr1 q21.ext, fc1, fc2, ldA2 fc1 fc2, ei2, rd_ext fr2 q21.ext, fc3, fc4, ldA2 fc3 fc4, h6, h7, h8, h9, ki, e1, wj, q21.rd 0 rfl, q21.rd 3 rfl, q21.rd 6 rfl]
        -- end3
        exact q21.err (by unfold redR; rw [if_neg hr0, hfin]; exact Prod.ext h12 rfl)
      ·
        have hz : R1.2 = 0 := by simpa using u5
        have hst := redL_drop (s := s) (rs := rs) (k := j) hk1
        rw [hred] at hst
        unfold redS at hst
        rw [if_pos rfl, hR1] at hst
        try simp -implicitDefEqProofs only [kk0, kk1, kk2, kk3, rW_block, ↓two_true, ↓two_false, rW_cond, rO_guard, mkv, aggAt, Nat.reduceLeDiff, Nat.reduceSub, Nat.reduceMul, cond_true, cond_false, Option.bind_some, List.length_append, List.length_cons, List.length_nil, List.append_assoc, List.cons_append, List.nil_append, List.set_cons_zero, List.set_cons_succ, List.size_toArray, List.all_cons, List.all_nil, List.drop_zero, List.drop_succ_cons, List.take_succ_cons, List.take_zero, List.mem_cons, Prod.mk.injEq, List.not_mem_nil, implies_true, List.getElem?_toArray, List.getElem?_cons_zero, List.getElem?_cons_succ, List.getElem?_nil, Option.getD_some, Option.getD_none, Nat.reduceEqDiff, reduceIte, Nat.reduceAdd, List.map_toArray, List.map_cons, List.map_nil, Bool.false_eq_true, Nat.reduceBEq, Option.map_some, Option.map_none, reduceCtorEq, al26, ap24_24, bd26, bs24_1, fa26_1, ix86, ld24, ld26, ln86, st24, st26, implNeutral_eq, w1, w2, ei1, rd_ext fr1 q20.ext, fc1, fc2, ldA2 fc1 fc2, ei2, rd_ext fr2 q20.ext, fc3, fc4, ldA2 fc3 fc4, h6, h7, h8, h9, ki, e1, wj, q20.rd 0 rfl, q20.rd 3 rfl, q20.rd 6 rfl]
        refine st_set q20 3 rfl fun H20 q22 => ?_
        simp only [List.set_cons_zero, List.set_cons_succ] at q22
        simp -implicitDefEqProofs only [kk0, kk1, kk2, kk3, rW_block, ↓two_true, ↓two_false, rW_cond, rO_guard, mkv, aggAt, Nat.reduceLeDiff, Nat.reduceSub, Nat.reduceMul, cond_true, cond_false, Option.bind_some, List.length_append, List.length_cons, List.length_nil, List.append_assoc, List.cons_append, List.nil_append, List.set_cons_zero, List.set_cons_succ, List.size_toArray, List.all_cons, List.all_nil, List.drop_zero, List.drop_succ_cons, List.take_succ_cons, List.take_zero, List.mem_cons, Prod.mk.injEq, List.not_mem_nil, implies_true, List.getElem?_toArray, List.getElem?_cons_zero, List.getElem?_cons_succ, List.getElem?_nil, Option.getD_some, Option.getD_none, Nat.reduceEqDiff, reduceIte, Nat.reduceAdd, List.map_toArray, List.map_cons, List.map_nil, Bool.false_eq_true, Nat.reduceBEq, Option.map_some, Option.map_none, reduceCtorEq, al26, ap24_24, bd26, bs24_1, fa26_1, ix86, ld24, ld26, ln86, st24, st26, implNeutral_eq, w1, w2, ei1, rd_ext fr1 q22.ext, fc1, fc2, ldA2 fc1 fc2, ei2, rd_ext fr2 q22.ext, fc3, fc4, ldA2 fc3 fc4, h6, h7, h8, h9, ki, e1, wj, q22.rd 0 rfl, q22.rd 3 rfl, q22.rd 6 rfl]
        -- back loop2
        refine ⟨(j, R1.1, (a9, c9), (a10, c10)), (by simp only; omega), ⟨rfl, rfl, rfl, rfl, trivial⟩, ⟨rfl, by simp only; omega, by simp only; rw [hst]; exact Prod.ext rfl hz, by simp only; omega, by simp only; omega⟩, ?_⟩
        simp only [List.set_cons_zero, List.set_cons_succ]
        exact q22.pick [3, 1, 2, 6] _ rfl (by decide)
    ·
      have hk0 : k = 0 := by have : ¬ (0 : Int) ≤ (k : Int) - 1 := (by simpa using u4); omega
      subst hk0
      rw [List.drop_zero] at hred
      try simp -implicitDefEqProofs only [kk0, kk1, kk2, kk3, rW_block, ↓two_true, ↓two_false, rW_cond, rO_guard, mkv, aggAt, Nat.reduceLeDiff, Nat.reduceSub, Nat.reduceMul, cond_true, cond_false, Option.bind_some, List.length_append, List.length_cons, List.length_nil, List.append_assoc, List.cons_append, List.nil_append, List.set_cons_zero, List.set_cons_succ, List.size_toArray, List.all_cons, List.all_nil, List.drop_zero, List.drop_succ_cons, List.take_succ_cons, List.take_zero, List.mem_cons, Prod.mk.injEq, List.not_mem_nil, implies_true, List.getElem?_toArray, List.getElem?_cons_zero, List.getElem?_cons_succ, List.getElem?_nil, Option.getD_some, Option.getD_none, Nat.reduceEqDiff, reduceIte, Nat.reduceAdd, List.map_toArray, List.map_cons, List.map_nil, Bool.false_eq_true, Nat.reduceBEq, Option.map_some, Option.map_none, reduceCtorEq, al26, ap24_24, bd26, bs24_1, fa26_1, ix86, ld24, ld26, ln86, st24, st26, implNeutral_eq, w1, w2, ei1, rd_ext fr1 q17.ext, fc1, fc2, ldA2 fc1 fc2, h6, h7, h8, h9, ki, q17.rd 0 rfl, q17.rd 3 rfl]
      refine st_set q17 3 rfl fun H21 q23 => ?_
      simp only [List.set_cons_zero, List.set_cons_succ] at q23
      simp -implicitDefEqProofs only [kk0, kk1, kk2, kk3, rW_block, ↓two_true, ↓two_false, rW_cond, rO_guard, mkv, aggAt, Nat.reduceLeDiff, Nat.reduceSub, Nat.reduceMul, cond_true, cond_false, Option.bind_some, List.length_append, List.length_cons, List.length_nil, List.append_assoc, List.cons_append, List.nil_append, List.set_cons_zero, List.set_cons_succ, List.size_toArray, List.all_cons, List.all_nil, List.drop_zero, List.drop_succ_cons, List.take_succ_cons, List.take_zero, List.mem_cons, Prod.mk.injEq, List.not_mem_nil, implies_true, List.getElem?_toArray, List.getElem?_cons_zero, List.getElem?_cons_succ, List.getElem?_nil, Option.getD_some, Option.getD_none, Nat.reduceEqDiff, reduceIte, Nat.reduceAdd, List.map_toArray, List.map_cons, List.map_nil, Bool.false_eq_true, Nat.reduceBEq, Option.map_some, Option.map_none, reduceCtorEq, al26, ap24_24, bd26, bs24_1, fa26_1, ix86, ld24, ld26, ln86, st24, st26, implNeutral_eq, w1, w2, ei1, rd_ext fr1 q23.ext, fc1, fc2, ldA2 fc1 fc2, h6, h7, h8, h9, ki, q23.rd 0 rfl, q23.rd 3 rfl]
      -- end4
      exact q23.ans 1 2 (by decide) rfl rfl (by unfold redR; rw [if_neg hr0]; exact hred)

def reduceR (s : Int) (sa da : List Int) : (List Int × List Int) × Int := if (arrOk sa da && sg2 s) = true then (if sa.length = 0 then ((sa, da), 0) else redR s (rowsR sa da) sa.tail) else (([], []), 1)
/-- All rows of an array that is right: how long they are. -/
theorem rowsR_lim {sa da : List Int} (h : arrOk sa da = true) (hne : sa.length ≠ 0) : (rowsR sa da).length ≤ 300 ∧ ((rowsR sa da).length : Int) = sa.headD 0 ∧ (∀ r ∈ rowsR sa da, r.1 = sa.tail ∧ r.1.length ≤ 3 ∧ (r.2.length : Int) = sizeI sa.tail ∧ r.2.length ≤ 300 ∧ r.2.all numOk = true) := by
  have hne' : sa ≠ [] := by rintro rfl; exact hne rfl
  have h1 := rowsR_len' h hne'
  refine ⟨?_, h1, fun r hr => ?_⟩
  · obtain ⟨x, tl, e⟩ := List.exists_cons_of_ne_nil hne'
    rw [e] at h h1
    obtain ⟨n, e2, hn, _⟩ := arrOk_rows h
    rw [e]
    rw [rowsR_len e2]; exact hn
  · obtain ⟨i, hi, e⟩ := List.mem_iff_getElem.1 hr
    obtain ⟨e1, e2, e3, e4, e5⟩ := rowsR_row h (List.getElem?_eq_getElem hi)
    rw [e] at e1 e3 e4 e5
    refine ⟨e1, ?_, e3, e5, e4⟩
    rw [e1]
    exact (sizeI_ok e2).1
theorem implReduce_ok {H : AH} {s : Int} {pa qa : Value} {sa da : List Int} (a : AR H pa qa sa da) (hsz : (rowsR sa da).length = 0 → 0 ≤ sizeI sa.tail) : CallsA Try.prog 19 #[.int .i64 s, .agg #[pa, qa]] H fun r H' => Ans1 H H' r (reduceR s sa da) := by
  have al := a.l1
  have bl := a.l2
  obtain ⟨za, zc, zb, zd, rfl, rfl⟩ := a.o1
  have q := (LX.nil (H := H))
  refine w19 ?_
  unfold k19
  simp -implicitDefEqProofs only [kk0, kk1, kk2, kk3, rW_block, ↓two_true, ↓two_false, rW_cond, rO_guard, mkv, aggAt, Nat.reduceLeDiff, Nat.reduceSub, Nat.reduceMul, cond_true, cond_false, Option.bind_some, List.length_append, List.length_cons, List.length_nil, List.append_assoc, List.cons_append, List.nil_append, List.set_cons_zero, List.set_cons_succ, List.size_toArray, List.all_cons, List.all_nil, List.drop_zero, List.drop_succ_cons, List.take_succ_cons, List.take_zero, List.mem_cons, Prod.mk.injEq, List.not_mem_nil, implies_true, List.getElem?_toArray, List.getElem?_cons_zero, List.getElem?_cons_succ, List.getElem?_nil, Option.getD_some, Option.getD_none, Nat.reduceEqDiff, reduceIte, Nat.reduceAdd, List.map_toArray, List.map_cons, List.map_nil, Bool.false_eq_true, Nat.reduceBEq, Option.map_some, Option.map_none, reduceCtorEq, al26, bd26, fa26_0, ld24, ld26, ln24, sn24, sl24, st26, twoSign_eq]
  refine st_box q fun H1 q1 => ?_
  simp -implicitDefEqProofs only [kk0, kk1, kk2, kk3, rW_block, ↓two_true, ↓two_false, rW_cond, rO_guard, mkv, aggAt, Nat.reduceLeDiff, Nat.reduceSub, Nat.reduceMul, cond_true, cond_false, Option.bind_some, List.length_append, List.length_cons, List.length_nil, List.append_assoc, List.cons_append, List.nil_append, List.set_cons_zero, List.set_cons_succ, List.size_toArray, List.all_cons, List.all_nil, List.drop_zero, List.drop_succ_cons, List.take_succ_cons, List.take_zero, List.mem_cons, Prod.mk.injEq, List.not_mem_nil, implies_true, List.getElem?_toArray, List.getElem?_cons_zero, List.getElem?_cons_succ, List.getElem?_nil, Option.getD_some, Option.getD_none, Nat.reduceEqDiff, reduceIte, Nat.reduceAdd, List.map_toArray, List.map_cons, List.map_nil, Bool.false_eq_true, Nat.reduceBEq, Option.map_some, Option.map_none, reduceCtorEq, al26, bd26, fa26_0, ld24, ld26, ln24, sn24, sl24, st26, twoSign_eq, q1.rd 0 rfl]
  refine st_box q1 fun H2 q2 => ?_
  simp -implicitDefEqProofs only [kk0, kk1, kk2, kk3, rW_block, ↓two_true, ↓two_false, rW_cond, rO_guard, mkv, aggAt, Nat.reduceLeDiff, Nat.reduceSub, Nat.reduceMul, cond_true, cond_false, Option.bind_some, List.length_append, List.length_cons, List.length_nil, List.append_assoc, List.cons_append, List.nil_append, List.set_cons_zero, List.set_cons_succ, List.size_toArray, List.all_cons, List.all_nil, List.drop_zero, List.drop_succ_cons, List.take_succ_cons, List.take_zero, List.mem_cons, Prod.mk.injEq, List.not_mem_nil, implies_true, List.getElem?_toArray, List.getElem?_cons_zero, List.getElem?_cons_succ, List.getElem?_nil, Option.getD_some, Option.getD_none, Nat.reduceEqDiff, reduceIte, Nat.reduceAdd, List.map_toArray, List.map_cons, List.map_nil, Bool.false_eq_true, Nat.reduceBEq, Option.map_some, Option.map_none, reduceCtorEq, al26, bd26, fa26_0, ld24, ld26, ln24, sn24, sl24, st26, twoSign_eq, q2.rd 0 rfl, q2.rd 1 rfl]
  refine (implOk_ar (a.ext q2.ext)).mono ?_
  rintro _ H3 ⟨rfl, he1⟩
  have q3 := q2.extd he1
  simp -implicitDefEqProofs only [kk0, kk1, kk2, kk3, rW_block, ↓two_true, ↓two_false, rW_cond, rO_guard, mkv, aggAt, Nat.reduceLeDiff, Nat.reduceSub, Nat.reduceMul, cond_true, cond_false, Option.bind_some, List.length_append, List.length_cons, List.length_nil, List.append_assoc, List.cons_append, List.nil_append, List.set_cons_zero, List.set_cons_succ, List.size_toArray, List.all_cons, List.all_nil, List.drop_zero, List.drop_succ_cons, List.take_succ_cons, List.take_zero, List.mem_cons, Prod.mk.injEq, List.not_mem_nil, implies_true, List.getElem?_toArray, List.getElem?_cons_zero, List.getElem?_cons_succ, List.getElem?_nil, Option.getD_some, Option.getD_none, Nat.reduceEqDiff, reduceIte, Nat.reduceAdd, List.map_toArray, List.map_cons, List.map_nil, Bool.false_eq_true, Nat.reduceBEq, Option.map_some, Option.map_none, reduceCtorEq, al26, bd26, fa26_0, ld24, ld26, ln24, sn24, sl24, st26, twoSign_eq, q3.rd 0 rfl, q3.rd 1 rfl]
  refine two_intro (fun u1 => ?_) (fun u1 => ?_)
  ·
    try simp -implicitDefEqProofs only [kk0, kk1, kk2, kk3, rW_block, ↓two_true, ↓two_false, rW_cond, rO_guard, mkv, aggAt, Nat.reduceLeDiff, Nat.reduceSub, Nat.reduceMul, cond_true, cond_false, Option.bind_some, List.length_append, List.length_cons, List.length_nil, List.append_assoc, List.cons_append, List.nil_append, List.set_cons_zero, List.set_cons_succ, List.size_toArray, List.all_cons, List.all_nil, List.drop_zero, List.drop_succ_cons, List.take_succ_cons, List.take_zero, List.mem_cons, Prod.mk.injEq, List.not_mem_nil, implies_true, List.getElem?_toArray, List.getElem?_cons_zero, List.getElem?_cons_succ, List.getElem?_nil, Option.getD_some, Option.getD_none, Nat.reduceEqDiff, reduceIte, Nat.reduceAdd, List.map_toArray, List.map_cons, List.map_nil, Bool.false_eq_true, Nat.reduceBEq, Option.map_some, Option.map_none, reduceCtorEq, al26, bd26, fa26_0, ld24, ld26, ln24, sn24, sl24, st26, twoSign_eq, q3.rd 0 rfl, q3.rd 1 rfl]
    refine st_set q3 0 rfl fun H4 q4 => ?_
    simp only [List.set_cons_zero, List.set_cons_succ] at q4
    simp -implicitDefEqProofs only [kk0, kk1, kk2, kk3, rW_block, ↓two_true, ↓two_false, rW_cond, rO_guard, mkv, aggAt, Nat.reduceLeDiff, Nat.reduceSub, Nat.reduceMul, cond_true, cond_false, Option.bind_some, List.length_append, List.length_cons, List.length_nil, List.append_assoc, List.cons_append, List.nil_append, List.set_cons_zero, List.set_cons_succ, List.size_toArray, List.all_cons, List.all_nil, List.drop_zero, List.drop_succ_cons, List.take_succ_cons, List.take_zero, List.mem_cons, Prod.mk.injEq, List.not_mem_nil, implies_true, List.getElem?_toArray, List.getElem?_cons_zero, List.getElem?_cons_succ, List.getElem?_nil, Option.getD_some, Option.getD_none, Nat.reduceEqDiff, reduceIte, Nat.reduceAdd, List.map_toArray, List.map_cons, List.map_nil, Bool.false_eq_true, Nat.reduceBEq, Option.map_some, Option.map_none, reduceCtorEq, al26, bd26, fa26_0, ld24, ld26, ln24, sn24, sl24, st26, twoSign_eq, q4.rd 0 rfl, q4.rd 1 rfl]
    -- end1
    exact q4.err (by simp [reduceR, show arrOk sa da = false by simpa using u1])
  ·
    have v1 : arrOk sa da = true := by simpa using u1
    try simp -implicitDefEqProofs only [kk0, kk1, kk2, kk3, rW_block, ↓two_true, ↓two_false, rW_cond, rO_guard, mkv, aggAt, Nat.reduceLeDiff, Nat.reduceSub, Nat.reduceMul, cond_true, cond_false, Option.bind_some, List.length_append, List.length_cons, List.length_nil, List.append_assoc, List.cons_append, List.nil_append, List.set_cons_zero, List.set_cons_succ, List.size_toArray, List.all_cons, List.all_nil, List.drop_zero, List.drop_succ_cons, List.take_succ_cons, List.take_zero, List.mem_cons, Prod.mk.injEq, List.not_mem_nil, implies_true, List.getElem?_toArray, List.getElem?_cons_zero, List.getElem?_cons_succ, List.getElem?_nil, Option.getD_some, Option.getD_none, Nat.reduceEqDiff, reduceIte, Nat.reduceAdd, List.map_toArray, List.map_cons, List.map_nil, Bool.false_eq_true, Nat.reduceBEq, Option.map_some, Option.map_none, reduceCtorEq, al26, bd26, fa26_0, ld24, ld26, ln24, sn24, sl24, st26, twoSign_eq, q3.rd 0 rfl, q3.rd 1 rfl]
    refine two_intro (fun u2 => ?_) (fun u2 => ?_)
    ·
      try simp -implicitDefEqProofs only [kk0, kk1, kk2, kk3, rW_block, ↓two_true, ↓two_false, rW_cond, rO_guard, mkv, aggAt, Nat.reduceLeDiff, Nat.reduceSub, Nat.reduceMul, cond_true, cond_false, Option.bind_some, List.length_append, List.length_cons, List.length_nil, List.append_assoc, List.cons_append, List.nil_append, List.set_cons_zero, List.set_cons_succ, List.size_toArray, List.all_cons, List.all_nil, List.drop_zero, List.drop_succ_cons, List.take_succ_cons, List.take_zero, List.mem_cons, Prod.mk.injEq, List.not_mem_nil, implies_true, List.getElem?_toArray, List.getElem?_cons_zero, List.getElem?_cons_succ, List.getElem?_nil, Option.getD_some, Option.getD_none, Nat.reduceEqDiff, reduceIte, Nat.reduceAdd, List.map_toArray, List.map_cons, List.map_nil, Bool.false_eq_true, Nat.reduceBEq, Option.map_some, Option.map_none, reduceCtorEq, al26, bd26, fa26_0, ld24, ld26, ln24, sn24, sl24, st26, twoSign_eq, q3.rd 0 rfl, q3.rd 1 rfl]
      refine st_set q3 0 rfl fun H5 q5 => ?_
      simp only [List.set_cons_zero, List.set_cons_succ] at q5
      simp -implicitDefEqProofs only [kk0, kk1, kk2, kk3, rW_block, ↓two_true, ↓two_false, rW_cond, rO_guard, mkv, aggAt, Nat.reduceLeDiff, Nat.reduceSub, Nat.reduceMul, cond_true, cond_false, Option.bind_some, List.length_append, List.length_cons, List.length_nil, List.append_assoc, List.cons_append, List.nil_append, List.set_cons_zero, List.set_cons_succ, List.size_toArray, List.all_cons, List.all_nil, List.drop_zero, List.drop_succ_cons, List.take_succ_cons, List.take_zero, List.mem_cons, Prod.mk.injEq, List.not_mem_nil, implies_true, List.getElem?_toArray, List.getElem?_cons_zero, List.getElem?_cons_succ, List.getElem?_nil, Option.getD_some, Option.getD_none, Nat.reduceEqDiff, reduceIte, Nat.reduceAdd, List.map_toArray, List.map_cons, List.map_nil, Bool.false_eq_true, Nat.reduceBEq, Option.map_some, Option.map_none, reduceCtorEq, al26, bd26, fa26_0, ld24, ld26, ln24, sn24, sl24, st26, twoSign_eq, q5.rd 0 rfl, q5.rd 1 rfl]
      -- end2
      exact q5.err (by simp [reduceR, show sg2 s = false by simpa using u2])
    ·
      have v2 : sg2 s = true := by simpa using u2
      try simp -implicitDefEqProofs only [kk0, kk1, kk2, kk3, rW_block, ↓two_true, ↓two_false, rW_cond, rO_guard, mkv, aggAt, Nat.reduceLeDiff, Nat.reduceSub, Nat.reduceMul, cond_true, cond_false, Option.bind_some, List.length_append, List.length_cons, List.length_nil, List.append_assoc, List.cons_append, List.nil_append, List.set_cons_zero, List.set_cons_succ, List.size_toArray, List.all_cons, List.all_nil, List.drop_zero, List.drop_succ_cons, List.take_succ_cons, List.take_zero, List.mem_cons, Prod.mk.injEq, List.not_mem_nil, implies_true, List.getElem?_toArray, List.getElem?_cons_zero, List.getElem?_cons_succ, List.getElem?_nil, Option.getD_some, Option.getD_none, Nat.reduceEqDiff, reduceIte, Nat.reduceAdd, List.map_toArray, List.map_cons, List.map_nil, Bool.false_eq_true, Nat.reduceBEq, Option.map_some, Option.map_none, reduceCtorEq, al26, bd26, fa26_0, ld24, ld26, ln24, sn24, sl24, st26, twoSign_eq, q3.rd 0 rfl, q3.rd 1 rfl]
      refine two_intro (fun u3 => ?_) (fun u3 => ?_)
      ·
        have v3 : sa.length = 0 := by simpa using u3
        try simp -implicitDefEqProofs only [kk0, kk1, kk2, kk3, rW_block, ↓two_true, ↓two_false, rW_cond, rO_guard, mkv, aggAt, Nat.reduceLeDiff, Nat.reduceSub, Nat.reduceMul, cond_true, cond_false, Option.bind_some, List.length_append, List.length_cons, List.length_nil, List.append_assoc, List.cons_append, List.nil_append, List.set_cons_zero, List.set_cons_succ, List.size_toArray, List.all_cons, List.all_nil, List.drop_zero, List.drop_succ_cons, List.take_succ_cons, List.take_zero, List.mem_cons, Prod.mk.injEq, List.not_mem_nil, implies_true, List.getElem?_toArray, List.getElem?_cons_zero, List.getElem?_cons_succ, List.getElem?_nil, Option.getD_some, Option.getD_none, Nat.reduceEqDiff, reduceIte, Nat.reduceAdd, List.map_toArray, List.map_cons, List.map_nil, Bool.false_eq_true, Nat.reduceBEq, Option.map_some, Option.map_none, reduceCtorEq, al26, bd26, fa26_0, ld24, ld26, ln24, sn24, sl24, st26, twoSign_eq, q3.rd 0 rfl, q3.rd 1 rfl]
        refine (copyA_ok (a.ext q3.ext)).mono ?_
        rintro _ H6 ⟨p1, p2, rfl, g1⟩
        have q6 := q3.join g1
        simp only [List.map_cons, List.map_nil, List.cons_append, List.nil_append] at q6
        obtain ⟨a1, c1, rfl⟩ := (q6.own 0 rfl).isSlice
        obtain ⟨a2, c2, rfl⟩ := (q6.own 1 rfl).isSlice
        simp -implicitDefEqProofs only [kk0, kk1, kk2, kk3, rW_block, ↓two_true, ↓two_false, rW_cond, rO_guard, mkv, aggAt, Nat.reduceLeDiff, Nat.reduceSub, Nat.reduceMul, cond_true, cond_false, Option.bind_some, List.length_append, List.length_cons, List.length_nil, List.append_assoc, List.cons_append, List.nil_append, List.set_cons_zero, List.set_cons_succ, List.size_toArray, List.all_cons, List.all_nil, List.drop_zero, List.drop_succ_cons, List.take_succ_cons, List.take_zero, List.mem_cons, Prod.mk.injEq, List.not_mem_nil, implies_true, List.getElem?_toArray, List.getElem?_cons_zero, List.getElem?_cons_succ, List.getElem?_nil, Option.getD_some, Option.getD_none, Nat.reduceEqDiff, reduceIte, Nat.reduceAdd, List.map_toArray, List.map_cons, List.map_nil, Bool.false_eq_true, Nat.reduceBEq, Option.map_some, Option.map_none, reduceCtorEq, al26, bd26, fa26_0, ld24, ld26, ln24, sn24, sl24, st26, twoSign_eq, q6.rd 2 rfl, q6.rd 3 rfl]
        refine st_set q6 2 rfl fun H7 q7 => ?_
        simp only [List.set_cons_zero, List.set_cons_succ] at q7
        simp -implicitDefEqProofs only [kk0, kk1, kk2, kk3, rW_block, ↓two_true, ↓two_false, rW_cond, rO_guard, mkv, aggAt, Nat.reduceLeDiff, Nat.reduceSub, Nat.reduceMul, cond_true, cond_false, Option.bind_some, List.length_append, List.length_cons, List.length_nil, List.append_assoc, List.cons_append, List.nil_append, List.set_cons_zero, List.set_cons_succ, List.size_toArray, List.all_cons, List.all_nil, List.drop_zero, List.drop_succ_cons, List.take_succ_cons, List.take_zero, List.mem_cons, Prod.mk.injEq, List.not_mem_nil, implies_true, List.getElem?_toArray, List.getElem?_cons_zero, List.getElem?_cons_succ, List.getElem?_nil, Option.getD_some, Option.getD_none, Nat.reduceEqDiff, reduceIte, Nat.reduceAdd, List.map_toArray, List.map_cons, List.map_nil, Bool.false_eq_true, Nat.reduceBEq, Option.map_some, Option.map_none, reduceCtorEq, al26, bd26, fa26_0, ld24, ld26, ln24, sn24, sl24, st26, twoSign_eq, q7.rd 2 rfl, q7.rd 3 rfl]
        -- end3
        exact q7.ans 0 1 (by decide) rfl rfl (by unfold reduceR; rw [v1, v2, if_pos (by rfl), if_pos v3])
      ·
        have v3 : sa.length ≠ 0 := by simpa using u3
        obtain ⟨m1, m2, m3⟩ := rowsR_lim v1 v3
        have hsl3 : sa.length ≤ 3 := (sizeI_ok (by have := (arrOk_size v1).1; omega)).1
        have htl : sa.tail.length ≤ 3 := by simp; omega
        try simp -implicitDefEqProofs only [kk0, kk1, kk2, kk3, rW_block, ↓two_true, ↓two_false, rW_cond, rO_guard, mkv, aggAt, Nat.reduceLeDiff, Nat.reduceSub, Nat.reduceMul, cond_true, cond_false, Option.bind_some, List.length_append, List.length_cons, List.length_nil, List.append_assoc, List.cons_append, List.nil_append, List.set_cons_zero, List.set_cons_succ, List.size_toArray, List.all_cons, List.all_nil, List.drop_zero, List.drop_succ_cons, List.take_succ_cons, List.take_zero, List.mem_cons, Prod.mk.injEq, List.not_mem_nil, implies_true, List.getElem?_toArray, List.getElem?_cons_zero, List.getElem?_cons_succ, List.getElem?_nil, Option.getD_some, Option.getD_none, Nat.reduceEqDiff, reduceIte, Nat.reduceAdd, List.map_toArray, List.map_cons, List.map_nil, Bool.false_eq_true, Nat.reduceBEq, Option.map_some, Option.map_none, reduceCtorEq, al26, bd26, fa26_0, ld24, ld26, ln24, sn24, sl24, st26, twoSign_eq, q3.rd 0 rfl, q3.rd 1 rfl]
        refine (implRows_ok (a.ext q3.ext)).mono ?_
        rintro rv1 H8 ⟨⟨ys1, nw1, cv1⟩, he2⟩
        rw [show rowsA sa da = rowsR sa da by unfold rowsA; rw [v1]; rfl] at nw1 cv1
        have q8 := q3.nrows nw1 cv1 he2
        obtain ⟨a3, c3, rfl, -⟩ := (q8.rowsF 0 rfl).1
        obtain ⟨a4, c4, ev1, hv1⟩ := IntRow.tl a.os (by omega)
        simp -implicitDefEqProofs only [kk0, kk1, kk2, kk3, rW_block, ↓two_true, ↓two_false, rW_cond, rO_guard, mkv, aggAt, Nat.reduceLeDiff, Nat.reduceSub, Nat.reduceMul, cond_true, cond_false, Option.bind_some, List.length_append, List.length_cons, List.length_nil, List.append_assoc, List.cons_append, List.nil_append, List.set_cons_zero, List.set_cons_succ, List.size_toArray, List.all_cons, List.all_nil, List.drop_zero, List.drop_succ_cons, List.take_succ_cons, List.take_zero, List.mem_cons, Prod.mk.injEq, List.not_mem_nil, implies_true, List.getElem?_toArray, List.getElem?_cons_zero, List.getElem?_cons_succ, List.getElem?_nil, Option.getD_some, Option.getD_none, Nat.reduceEqDiff, reduceIte, Nat.reduceAdd, List.map_toArray, List.map_cons, List.map_nil, Bool.false_eq_true, Nat.reduceBEq, Option.map_some, Option.map_none, reduceCtorEq, al26, bd26, fa26_0, ld24, ld26, ln24, sn24, sl24, st26, twoSign_eq, ev1, q8.rd 1 rfl, q8.rd 2 rfl, q3.rd 0 rfl, q3.rd 1 rfl]
        refine (implReduced_ok (s := s) (q8.rowsF 0 rfl).1 (hv1.ext q8.ext) (by omega) (by omega) (fun r hr => ⟨by have := (m3 r hr).2.1; omega, by have := (m3 r hr).2.2.2.1; omega⟩) hsz ).mono ?_
        rintro _ H9 ⟨p3, p4, rfl, g2⟩
        obtain ⟨R1, hR1⟩ : ∃ R, redR s (rowsR sa da) sa.tail = R := ⟨_, rfl⟩
        rw [hR1] at g2 ⊢
        have q9 := q8.join g2
        simp only [List.map_cons, List.map_nil, List.cons_append, List.nil_append] at q9
        obtain ⟨a5, c5, rfl⟩ := (q9.own 0 rfl).isSlice
        obtain ⟨a6, c6, rfl⟩ := (q9.own 1 rfl).isSlice
        simp -implicitDefEqProofs only [kk0, kk1, kk2, kk3, rW_block, ↓two_true, ↓two_false, rW_cond, rO_guard, mkv, aggAt, Nat.reduceLeDiff, Nat.reduceSub, Nat.reduceMul, cond_true, cond_false, Option.bind_some, List.length_append, List.length_cons, List.length_nil, List.append_assoc, List.cons_append, List.nil_append, List.set_cons_zero, List.set_cons_succ, List.size_toArray, List.all_cons, List.all_nil, List.drop_zero, List.drop_succ_cons, List.take_succ_cons, List.take_zero, List.mem_cons, Prod.mk.injEq, List.not_mem_nil, implies_true, List.getElem?_toArray, List.getElem?_cons_zero, List.getElem?_cons_succ, List.getElem?_nil, Option.getD_some, Option.getD_none, Nat.reduceEqDiff, reduceIte, Nat.reduceAdd, List.map_toArray, List.map_cons, List.map_nil, Bool.false_eq_true, Nat.reduceBEq, Option.map_some, Option.map_none, reduceCtorEq, al26, bd26, fa26_0, ld24, ld26, ln24, sn24, sl24, st26, twoSign_eq, ev1, q9.rd 3 rfl, q9.rd 4 rfl, q3.rd 0 rfl, q3.rd 1 rfl, q8.rd 1 rfl, q8.rd 2 rfl]
        refine st_set q9 3 rfl fun H10 q10 => ?_
        simp only [List.set_cons_zero, List.set_cons_succ] at q10
        simp -implicitDefEqProofs only [kk0, kk1, kk2, kk3, rW_block, ↓two_true, ↓two_false, rW_cond, rO_guard, mkv, aggAt, Nat.reduceLeDiff, Nat.reduceSub, Nat.reduceMul, cond_true, cond_false, Option.bind_some, List.length_append, List.length_cons, List.length_nil, List.append_assoc, List.cons_append, List.nil_append, List.set_cons_zero, List.set_cons_succ, List.size_toArray, List.all_cons, List.all_nil, List.drop_zero, List.drop_succ_cons, List.take_succ_cons, List.take_zero, List.mem_cons, Prod.mk.injEq, List.not_mem_nil, implies_true, List.getElem?_toArray, List.getElem?_cons_zero, List.getElem?_cons_succ, List.getElem?_nil, Option.getD_some, Option.getD_none, Nat.reduceEqDiff, reduceIte, Nat.reduceAdd, List.map_toArray, List.map_cons, List.map_nil, Bool.false_eq_true, Nat.reduceBEq, Option.map_some, Option.map_none, reduceCtorEq, al26, bd26, fa26_0, ld24, ld26, ln24, sn24, sl24, st26, twoSign_eq, ev1, q10.rd 3 rfl, q10.rd 4 rfl, q3.rd 0 rfl, q3.rd 1 rfl, q8.rd 1 rfl, q8.rd 2 rfl, q9.rd 3 rfl, q9.rd 4 rfl]
        -- end4
        exact q10.ans 0 1 (by decide) rfl rfl (by unfold reduceR; rw [v1, v2, if_pos (by rfl), if_neg v3]; exact hR1)

def shapeOfR (sa da : List Int) : (List Int × List Int) × Int := if arrOk sa da = true then (([(sa.length : Int)], sa), 0) else (([], []), 1)
/-- Reckoned from the last to the first. -/
def redV (s : Int) : List Int → Int × Int
  | [] => (0, 0)
  | [x] => (x, 0)
  | x :: y :: l => if (redV s (y :: l)).2 = 0 then twoF s x (redV s (y :: l)).1 else (0, (redV s (y :: l)).2)
def sclR (R : Int × Int) : (List Int × List Int) × Int := if R.2 = 0 then (([], [R.1]), 0) else (([], []), R.2)
theorem arrOk_scl {x : Int} (h : numOk x = true) : arrOk [] [x] = true := by
  unfold arrOk; simp [h]; decide
theorem each2R_scl {s x y : Int} (hs : sg2 s = true) (hx : numOk x = true) (hy : numOk y = true) : each2R s [] [x] [] [y] = sclR (twoF s x y) := by
  have e1 := arrOk_scl hx
  have e2 := arrOk_scl hy
  have e3 : fitR [] [x] [] [y] = ([], 0) := by unfold fitR; rw [e1, e2]; rfl
  have e4 : (sizeI []).toNat = 1 := by decide
  unfold each2R sclR
  rw [e1, e2, hs, e3]
  simp only [Bool.and_self, if_true, e4]
  have e5 : each2C s [] [x] [] [y] 1 = (twoF s x y).2 := by
    simp [each2C, firstC, atV]
    intro h; exact h.symm
  have e6 : each2D s [] [x] [] [y] 1 = [(twoF s x y).1] := by simp [each2D, atV]
  rw [e5, e6]
theorem redV_num {s : Int} {l : List Int} (hl : l.all numOk = true) (h0 : l ≠ []) : numOk (redV s l).1 = true := by
  induction l with
  | nil => exact absurd rfl h0
  | cons x l ih =>
    cases l with
    | nil => simp only [List.all_cons, Bool.and_eq_true] at hl; exact hl.1
    | cons y l =>
      simp only [redV]
      split
      · exact twoF_num
      · exact (show numOk 0 = true by decide)
theorem redL_scl {s : Int} (hs : sg2 s = true) {l : List Int} (hl : l.all numOk = true) (h0 : l ≠ []) : redL s (l.map fun x => ([], [x])) = sclR (redV s l) := by
  induction l with
  | nil => exact absurd rfl h0
  | cons x l ih =>
    cases l with
    | nil => rfl
    | cons y l =>
      have hl2 := hl
      simp only [List.all_cons, Bool.and_eq_true] at hl
      have e := ih (by simp only [List.all_cons, Bool.and_eq_true]; exact hl.2) (by simp)
      have hn := redV_num (s := s) (l := y :: l) (by simp only [List.all_cons, Bool.and_eq_true]; exact hl.2) (by simp)
      simp only [List.map_cons, redL] at e ⊢
      rw [e]
      unfold redS
      simp only [redV]
      by_cases hz : (redV s (y :: l)).2 = 0
      · rw [if_pos hz]
        unfold sclR
        rw [if_pos hz, if_pos rfl]
        exact each2R_scl hs hl.1 hn
      · rw [if_neg hz]
        unfold sclR
        rw [if_neg hz]
        simp only [if_neg hz]
theorem rowsR_vec {da : List Int} {n : Nat} (h : da.length = n) : rowsR [(n : Int)] da = da.map fun x => ([], [x]) := by
  subst h
  have e : (sizeI []).toNat = 1 := by decide
  show (List.range ((da.length : Int)).toNat).map (fun i => ([], (da.drop (i * (sizeI []).toNat)).take (sizeI []).toNat)) = _
  rw [e, Int.toNat_natCast]
  refine List.ext_getElem (by simp) fun i h1 h2 => ?_
  have hi : i < da.length := by simpa using h2
  simp only [List.getElem_map, List.getElem_range, Nat.mul_one]
  rw [List.drop_eq_getElem_cons hi]
  rfl
theorem reduceR_vec {s : Int} {da : List Int} {n : Nat} (hs : sg2 s = true) (h : da.length = n) (ho : arrOk [(n : Int)] da = true) : reduceR s [(n : Int)] da = if n = 0 then (([], [(neuF s).1]), 0) else sclR (redV s da) := by
  have hd : da.all numOk = true := by unfold arrOk at ho; simp only [Bool.and_eq_true] at ho; exact ho.2
  unfold reduceR
  rw [ho, hs, rowsR_vec h]
  simp only [Bool.and_self, if_true, List.length_singleton, List.tail_cons]
  rw [if_neg (by decide)]
  unfold redR
  rw [List.length_map, h]
  split
  · rfl
  · rename_i h0
    exact redL_scl hs hd (by rintro rfl; simp at h; omega)

theorem implShapeOf_ok {H : AH} {pa qa : Value} {sa da : List Int} (a : AR H pa qa sa da) : CallsA Try.prog 17 #[.agg #[pa, qa]] H fun r H' => Ans1 H H' r (shapeOfR sa da) := by
  have al := a.l1
  have bl := a.l2
  obtain ⟨za, zc, zb, zd, rfl, rfl⟩ := a.o1
  have q := (LX.nil (H := H))
  refine w17 ?_
  unfold k17
  simp -implicitDefEqProofs only [kk0, kk1, kk2, kk3, rW_block, ↓two_true, ↓two_false, rW_cond, rO_guard, mkv, aggAt, Nat.reduceLeDiff, Nat.reduceSub, Nat.reduceMul, cond_true, cond_false, Option.bind_some, List.length_append, List.length_cons, List.length_nil, List.append_assoc, List.cons_append, List.nil_append, List.set_cons_zero, List.set_cons_succ, List.size_toArray, List.all_cons, List.all_nil, List.drop_zero, List.drop_succ_cons, List.take_succ_cons, List.take_zero, List.mem_cons, Prod.mk.injEq, List.not_mem_nil, implies_true, List.getElem?_toArray, List.getElem?_cons_zero, List.getElem?_cons_succ, List.getElem?_nil, Option.getD_some, Option.getD_none, Nat.reduceEqDiff, reduceIte, Nat.reduceAdd, List.map_toArray, List.map_cons, List.map_nil, Bool.false_eq_true, Nat.reduceBEq, Option.map_some, Option.map_none, reduceCtorEq, al26, bd26, fa26_0, ld24, ld26, st26]
  refine st_box q fun H1 q1 => ?_
  simp -implicitDefEqProofs only [kk0, kk1, kk2, kk3, rW_block, ↓two_true, ↓two_false, rW_cond, rO_guard, mkv, aggAt, Nat.reduceLeDiff, Nat.reduceSub, Nat.reduceMul, cond_true, cond_false, Option.bind_some, List.length_append, List.length_cons, List.length_nil, List.append_assoc, List.cons_append, List.nil_append, List.set_cons_zero, List.set_cons_succ, List.size_toArray, List.all_cons, List.all_nil, List.drop_zero, List.drop_succ_cons, List.take_succ_cons, List.take_zero, List.mem_cons, Prod.mk.injEq, List.not_mem_nil, implies_true, List.getElem?_toArray, List.getElem?_cons_zero, List.getElem?_cons_succ, List.getElem?_nil, Option.getD_some, Option.getD_none, Nat.reduceEqDiff, reduceIte, Nat.reduceAdd, List.map_toArray, List.map_cons, List.map_nil, Bool.false_eq_true, Nat.reduceBEq, Option.map_some, Option.map_none, reduceCtorEq, al26, bd26, fa26_0, ld24, ld26, st26, q1.rd 0 rfl]
  refine st_box q1 fun H2 q2 => ?_
  simp -implicitDefEqProofs only [kk0, kk1, kk2, kk3, rW_block, ↓two_true, ↓two_false, rW_cond, rO_guard, mkv, aggAt, Nat.reduceLeDiff, Nat.reduceSub, Nat.reduceMul, cond_true, cond_false, Option.bind_some, List.length_append, List.length_cons, List.length_nil, List.append_assoc, List.cons_append, List.nil_append, List.set_cons_zero, List.set_cons_succ, List.size_toArray, List.all_cons, List.all_nil, List.drop_zero, List.drop_succ_cons, List.take_succ_cons, List.take_zero, List.mem_cons, Prod.mk.injEq, List.not_mem_nil, implies_true, List.getElem?_toArray, List.getElem?_cons_zero, List.getElem?_cons_succ, List.getElem?_nil, Option.getD_some, Option.getD_none, Nat.reduceEqDiff, reduceIte, Nat.reduceAdd, List.map_toArray, List.map_cons, List.map_nil, Bool.false_eq_true, Nat.reduceBEq, Option.map_some, Option.map_none, reduceCtorEq, al26, bd26, fa26_0, ld24, ld26, st26, q2.rd 0 rfl, q2.rd 1 rfl]
  refine (implOk_ar (a.ext q2.ext)).mono ?_
  rintro _ H3 ⟨rfl, he1⟩
  have q3 := q2.extd he1
  simp -implicitDefEqProofs only [kk0, kk1, kk2, kk3, rW_block, ↓two_true, ↓two_false, rW_cond, rO_guard, mkv, aggAt, Nat.reduceLeDiff, Nat.reduceSub, Nat.reduceMul, cond_true, cond_false, Option.bind_some, List.length_append, List.length_cons, List.length_nil, List.append_assoc, List.cons_append, List.nil_append, List.set_cons_zero, List.set_cons_succ, List.size_toArray, List.all_cons, List.all_nil, List.drop_zero, List.drop_succ_cons, List.take_succ_cons, List.take_zero, List.mem_cons, Prod.mk.injEq, List.not_mem_nil, implies_true, List.getElem?_toArray, List.getElem?_cons_zero, List.getElem?_cons_succ, List.getElem?_nil, Option.getD_some, Option.getD_none, Nat.reduceEqDiff, reduceIte, Nat.reduceAdd, List.map_toArray, List.map_cons, List.map_nil, Bool.false_eq_true, Nat.reduceBEq, Option.map_some, Option.map_none, reduceCtorEq, al26, bd26, fa26_0, ld24, ld26, st26, q3.rd 0 rfl, q3.rd 1 rfl]
  refine two_intro (fun u1 => ?_) (fun u1 => ?_)
  ·
    try simp -implicitDefEqProofs only [kk0, kk1, kk2, kk3, rW_block, ↓two_true, ↓two_false, rW_cond, rO_guard, mkv, aggAt, Nat.reduceLeDiff, Nat.reduceSub, Nat.reduceMul, cond_true, cond_false, Option.bind_some, List.length_append, List.length_cons, List.length_nil, List.append_assoc, List.cons_append, List.nil_append, List.set_cons_zero, List.set_cons_succ, List.size_toArray, List.all_cons, List.all_nil, List.drop_zero, List.drop_succ_cons, List.take_succ_cons, List.take_zero, List.mem_cons, Prod.mk.injEq, List.not_mem_nil, implies_true, List.getElem?_toArray, List.getElem?_cons_zero, List.getElem?_cons_succ, List.getElem?_nil, Option.getD_some, Option.getD_none, Nat.reduceEqDiff, reduceIte, Nat.reduceAdd, List.map_toArray, List.map_cons, List.map_nil, Bool.false_eq_true, Nat.reduceBEq, Option.map_some, Option.map_none, reduceCtorEq, al26, bd26, fa26_0, ld24, ld26, st26, q3.rd 0 rfl, q3.rd 1 rfl]
    refine st_set q3 0 rfl fun H4 q4 => ?_
    simp only [List.set_cons_zero, List.set_cons_succ] at q4
    simp -implicitDefEqProofs only [kk0, kk1, kk2, kk3, rW_block, ↓two_true, ↓two_false, rW_cond, rO_guard, mkv, aggAt, Nat.reduceLeDiff, Nat.reduceSub, Nat.reduceMul, cond_true, cond_false, Option.bind_some, List.length_append, List.length_cons, List.length_nil, List.append_assoc, List.cons_append, List.nil_append, List.set_cons_zero, List.set_cons_succ, List.size_toArray, List.all_cons, List.all_nil, List.drop_zero, List.drop_succ_cons, List.take_succ_cons, List.take_zero, List.mem_cons, Prod.mk.injEq, List.not_mem_nil, implies_true, List.getElem?_toArray, List.getElem?_cons_zero, List.getElem?_cons_succ, List.getElem?_nil, Option.getD_some, Option.getD_none, Nat.reduceEqDiff, reduceIte, Nat.reduceAdd, List.map_toArray, List.map_cons, List.map_nil, Bool.false_eq_true, Nat.reduceBEq, Option.map_some, Option.map_none, reduceCtorEq, al26, bd26, fa26_0, ld24, ld26, st26, q4.rd 0 rfl, q4.rd 1 rfl]
    -- end1
    exact q4.err (by simp [shapeOfR, show arrOk sa da = false by simpa using u1])
  ·
    have v1 : arrOk sa da = true := by simpa using u1
    try simp -implicitDefEqProofs only [kk0, kk1, kk2, kk3, rW_block, ↓two_true, ↓two_false, rW_cond, rO_guard, mkv, aggAt, Nat.reduceLeDiff, Nat.reduceSub, Nat.reduceMul, cond_true, cond_false, Option.bind_some, List.length_append, List.length_cons, List.length_nil, List.append_assoc, List.cons_append, List.nil_append, List.set_cons_zero, List.set_cons_succ, List.size_toArray, List.all_cons, List.all_nil, List.drop_zero, List.drop_succ_cons, List.take_succ_cons, List.take_zero, List.mem_cons, Prod.mk.injEq, List.not_mem_nil, implies_true, List.getElem?_toArray, List.getElem?_cons_zero, List.getElem?_cons_succ, List.getElem?_nil, Option.getD_some, Option.getD_none, Nat.reduceEqDiff, reduceIte, Nat.reduceAdd, List.map_toArray, List.map_cons, List.map_nil, Bool.false_eq_true, Nat.reduceBEq, Option.map_some, Option.map_none, reduceCtorEq, al26, bd26, fa26_0, ld24, ld26, st26, q3.rd 0 rfl, q3.rd 1 rfl]
    refine (vector_ok (a.os.ext q3.ext) (by omega) ).mono ?_
    rintro _ H5 ⟨p1, p2, rfl, g1⟩
    have q5 := q3.join g1
    simp only [List.map_cons, List.map_nil, List.cons_append, List.nil_append] at q5
    obtain ⟨a1, c1, rfl⟩ := (q5.own 0 rfl).isSlice
    obtain ⟨a2, c2, rfl⟩ := (q5.own 1 rfl).isSlice
    simp -implicitDefEqProofs only [kk0, kk1, kk2, kk3, rW_block, ↓two_true, ↓two_false, rW_cond, rO_guard, mkv, aggAt, Nat.reduceLeDiff, Nat.reduceSub, Nat.reduceMul, cond_true, cond_false, Option.bind_some, List.length_append, List.length_cons, List.length_nil, List.append_assoc, List.cons_append, List.nil_append, List.set_cons_zero, List.set_cons_succ, List.size_toArray, List.all_cons, List.all_nil, List.drop_zero, List.drop_succ_cons, List.take_succ_cons, List.take_zero, List.mem_cons, Prod.mk.injEq, List.not_mem_nil, implies_true, List.getElem?_toArray, List.getElem?_cons_zero, List.getElem?_cons_succ, List.getElem?_nil, Option.getD_some, Option.getD_none, Nat.reduceEqDiff, reduceIte, Nat.reduceAdd, List.map_toArray, List.map_cons, List.map_nil, Bool.false_eq_true, Nat.reduceBEq, Option.map_some, Option.map_none, reduceCtorEq, al26, bd26, fa26_0, ld24, ld26, st26, q5.rd 2 rfl, q5.rd 3 rfl]
    refine st_set q5 2 rfl fun H6 q6 => ?_
    simp only [List.set_cons_zero, List.set_cons_succ] at q6
    simp -implicitDefEqProofs only [kk0, kk1, kk2, kk3, rW_block, ↓two_true, ↓two_false, rW_cond, rO_guard, mkv, aggAt, Nat.reduceLeDiff, Nat.reduceSub, Nat.reduceMul, cond_true, cond_false, Option.bind_some, List.length_append, List.length_cons, List.length_nil, List.append_assoc, List.cons_append, List.nil_append, List.set_cons_zero, List.set_cons_succ, List.size_toArray, List.all_cons, List.all_nil, List.drop_zero, List.drop_succ_cons, List.take_succ_cons, List.take_zero, List.mem_cons, Prod.mk.injEq, List.not_mem_nil, implies_true, List.getElem?_toArray, List.getElem?_cons_zero, List.getElem?_cons_succ, List.getElem?_nil, Option.getD_some, Option.getD_none, Nat.reduceEqDiff, reduceIte, Nat.reduceAdd, List.map_toArray, List.map_cons, List.map_nil, Bool.false_eq_true, Nat.reduceBEq, Option.map_some, Option.map_none, reduceCtorEq, al26, bd26, fa26_0, ld24, ld26, st26, q6.rd 2 rfl, q6.rd 3 rfl]
    -- end2
    exact q6.ans 0 1 (by decide) rfl rfl (by simp [shapeOfR, v1])

theorem l3VectorA_ok {H : AH} {v : Value} {l : List Int} (hv : IntRow H v l) (hl : l.length ≤ 1048576) : CallsA Try.prog 76 #[v] H fun r H' => AnsA H H' r ([(l.length : Int)], l) := l3Vector_ok hv hl

theorem specShapeOf_ok {H : AH} {pa qa : Value} {sa da : List Int} (a : AR H pa qa sa da) : CallsA Try.prog 18 #[.agg #[pa, qa]] H fun r H' => Ans1 H H' r (shapeOfR sa da) := by
  have al := a.l1
  have bl := a.l2
  obtain ⟨za, zc, zb, zd, rfl, rfl⟩ := a.o1
  have q := (LX.nil (H := H))
  refine w18 ?_
  unfold k18
  simp -implicitDefEqProofs only [kk0, kk1, kk2, kk3, rW_block, ↓two_true, ↓two_false, rW_cond, rO_guard, mkv, aggAt, Nat.reduceLeDiff, Nat.reduceSub, Nat.reduceMul, cond_true, cond_false, Option.bind_some, List.length_append, List.length_cons, List.length_nil, List.append_assoc, List.cons_append, List.nil_append, List.set_cons_zero, List.set_cons_succ, List.size_toArray, List.all_cons, List.all_nil, List.drop_zero, List.drop_succ_cons, List.take_succ_cons, List.take_zero, List.mem_cons, Prod.mk.injEq, List.not_mem_nil, implies_true, List.getElem?_toArray, List.getElem?_cons_zero, List.getElem?_cons_succ, List.getElem?_nil, Option.getD_some, Option.getD_none, Nat.reduceEqDiff, reduceIte, Nat.reduceAdd, List.map_toArray, List.map_cons, List.map_nil, Bool.false_eq_true, Nat.reduceBEq, Option.map_some, Option.map_none, reduceCtorEq, al26, bd26, fa26_0, ld24, ld26, st26]
  refine st_box q fun H1 q1 => ?_
  simp -implicitDefEqProofs only [kk0, kk1, kk2, kk3, rW_block, ↓two_true, ↓two_false, rW_cond, rO_guard, mkv, aggAt, Nat.reduceLeDiff, Nat.reduceSub, Nat.reduceMul, cond_true, cond_false, Option.bind_some, List.length_append, List.length_cons, List.length_nil, List.append_assoc, List.cons_append, List.nil_append, List.set_cons_zero, List.set_cons_succ, List.size_toArray, List.all_cons, List.all_nil, List.drop_zero, List.drop_succ_cons, List.take_succ_cons, List.take_zero, List.mem_cons, Prod.mk.injEq, List.not_mem_nil, implies_true, List.getElem?_toArray, List.getElem?_cons_zero, List.getElem?_cons_succ, List.getElem?_nil, Option.getD_some, Option.getD_none, Nat.reduceEqDiff, reduceIte, Nat.reduceAdd, List.map_toArray, List.map_cons, List.map_nil, Bool.false_eq_true, Nat.reduceBEq, Option.map_some, Option.map_none, reduceCtorEq, al26, bd26, fa26_0, ld24, ld26, st26, q1.rd 0 rfl]
  refine st_box q1 fun H2 q2 => ?_
  simp -implicitDefEqProofs only [kk0, kk1, kk2, kk3, rW_block, ↓two_true, ↓two_false, rW_cond, rO_guard, mkv, aggAt, Nat.reduceLeDiff, Nat.reduceSub, Nat.reduceMul, cond_true, cond_false, Option.bind_some, List.length_append, List.length_cons, List.length_nil, List.append_assoc, List.cons_append, List.nil_append, List.set_cons_zero, List.set_cons_succ, List.size_toArray, List.all_cons, List.all_nil, List.drop_zero, List.drop_succ_cons, List.take_succ_cons, List.take_zero, List.mem_cons, Prod.mk.injEq, List.not_mem_nil, implies_true, List.getElem?_toArray, List.getElem?_cons_zero, List.getElem?_cons_succ, List.getElem?_nil, Option.getD_some, Option.getD_none, Nat.reduceEqDiff, reduceIte, Nat.reduceAdd, List.map_toArray, List.map_cons, List.map_nil, Bool.false_eq_true, Nat.reduceBEq, Option.map_some, Option.map_none, reduceCtorEq, al26, bd26, fa26_0, ld24, ld26, st26, q2.rd 0 rfl, q2.rd 1 rfl]
  refine (specOk_ar (a.ext q2.ext)).mono ?_
  rintro _ H3 ⟨rfl, he1⟩
  have q3 := q2.extd he1
  simp -implicitDefEqProofs only [kk0, kk1, kk2, kk3, rW_block, ↓two_true, ↓two_false, rW_cond, rO_guard, mkv, aggAt, Nat.reduceLeDiff, Nat.reduceSub, Nat.reduceMul, cond_true, cond_false, Option.bind_some, List.length_append, List.length_cons, List.length_nil, List.append_assoc, List.cons_append, List.nil_append, List.set_cons_zero, List.set_cons_succ, List.size_toArray, List.all_cons, List.all_nil, List.drop_zero, List.drop_succ_cons, List.take_succ_cons, List.take_zero, List.mem_cons, Prod.mk.injEq, List.not_mem_nil, implies_true, List.getElem?_toArray, List.getElem?_cons_zero, List.getElem?_cons_succ, List.getElem?_nil, Option.getD_some, Option.getD_none, Nat.reduceEqDiff, reduceIte, Nat.reduceAdd, List.map_toArray, List.map_cons, List.map_nil, Bool.false_eq_true, Nat.reduceBEq, Option.map_some, Option.map_none, reduceCtorEq, al26, bd26, fa26_0, ld24, ld26, st26, q3.rd 0 rfl, q3.rd 1 rfl]
  refine two_intro (fun u1 => ?_) (fun u1 => ?_)
  ·
    try simp -implicitDefEqProofs only [kk0, kk1, kk2, kk3, rW_block, ↓two_true, ↓two_false, rW_cond, rO_guard, mkv, aggAt, Nat.reduceLeDiff, Nat.reduceSub, Nat.reduceMul, cond_true, cond_false, Option.bind_some, List.length_append, List.length_cons, List.length_nil, List.append_assoc, List.cons_append, List.nil_append, List.set_cons_zero, List.set_cons_succ, List.size_toArray, List.all_cons, List.all_nil, List.drop_zero, List.drop_succ_cons, List.take_succ_cons, List.take_zero, List.mem_cons, Prod.mk.injEq, List.not_mem_nil, implies_true, List.getElem?_toArray, List.getElem?_cons_zero, List.getElem?_cons_succ, List.getElem?_nil, Option.getD_some, Option.getD_none, Nat.reduceEqDiff, reduceIte, Nat.reduceAdd, List.map_toArray, List.map_cons, List.map_nil, Bool.false_eq_true, Nat.reduceBEq, Option.map_some, Option.map_none, reduceCtorEq, al26, bd26, fa26_0, ld24, ld26, st26, q3.rd 0 rfl, q3.rd 1 rfl]
    refine st_set q3 0 rfl fun H4 q4 => ?_
    simp only [List.set_cons_zero, List.set_cons_succ] at q4
    simp -implicitDefEqProofs only [kk0, kk1, kk2, kk3, rW_block, ↓two_true, ↓two_false, rW_cond, rO_guard, mkv, aggAt, Nat.reduceLeDiff, Nat.reduceSub, Nat.reduceMul, cond_true, cond_false, Option.bind_some, List.length_append, List.length_cons, List.length_nil, List.append_assoc, List.cons_append, List.nil_append, List.set_cons_zero, List.set_cons_succ, List.size_toArray, List.all_cons, List.all_nil, List.drop_zero, List.drop_succ_cons, List.take_succ_cons, List.take_zero, List.mem_cons, Prod.mk.injEq, List.not_mem_nil, implies_true, List.getElem?_toArray, List.getElem?_cons_zero, List.getElem?_cons_succ, List.getElem?_nil, Option.getD_some, Option.getD_none, Nat.reduceEqDiff, reduceIte, Nat.reduceAdd, List.map_toArray, List.map_cons, List.map_nil, Bool.false_eq_true, Nat.reduceBEq, Option.map_some, Option.map_none, reduceCtorEq, al26, bd26, fa26_0, ld24, ld26, st26, q4.rd 0 rfl, q4.rd 1 rfl]
    -- end1
    exact q4.err (by simp [shapeOfR, show arrOk sa da = false by simpa using u1])
  ·
    have v1 : arrOk sa da = true := by simpa using u1
    try simp -implicitDefEqProofs only [kk0, kk1, kk2, kk3, rW_block, ↓two_true, ↓two_false, rW_cond, rO_guard, mkv, aggAt, Nat.reduceLeDiff, Nat.reduceSub, Nat.reduceMul, cond_true, cond_false, Option.bind_some, List.length_append, List.length_cons, List.length_nil, List.append_assoc, List.cons_append, List.nil_append, List.set_cons_zero, List.set_cons_succ, List.size_toArray, List.all_cons, List.all_nil, List.drop_zero, List.drop_succ_cons, List.take_succ_cons, List.take_zero, List.mem_cons, Prod.mk.injEq, List.not_mem_nil, implies_true, List.getElem?_toArray, List.getElem?_cons_zero, List.getElem?_cons_succ, List.getElem?_nil, Option.getD_some, Option.getD_none, Nat.reduceEqDiff, reduceIte, Nat.reduceAdd, List.map_toArray, List.map_cons, List.map_nil, Bool.false_eq_true, Nat.reduceBEq, Option.map_some, Option.map_none, reduceCtorEq, al26, bd26, fa26_0, ld24, ld26, st26, q3.rd 0 rfl, q3.rd 1 rfl]
    refine (l3VectorA_ok (a.os.ext q3.ext) (by omega) ).mono ?_
    rintro _ H5 ⟨p1, p2, rfl, g1⟩
    have q5 := q3.join g1
    simp only [List.map_cons, List.map_nil, List.cons_append, List.nil_append] at q5
    obtain ⟨a1, c1, rfl⟩ := (q5.own 0 rfl).isSlice
    obtain ⟨a2, c2, rfl⟩ := (q5.own 1 rfl).isSlice
    simp -implicitDefEqProofs only [kk0, kk1, kk2, kk3, rW_block, ↓two_true, ↓two_false, rW_cond, rO_guard, mkv, aggAt, Nat.reduceLeDiff, Nat.reduceSub, Nat.reduceMul, cond_true, cond_false, Option.bind_some, List.length_append, List.length_cons, List.length_nil, List.append_assoc, List.cons_append, List.nil_append, List.set_cons_zero, List.set_cons_succ, List.size_toArray, List.all_cons, List.all_nil, List.drop_zero, List.drop_succ_cons, List.take_succ_cons, List.take_zero, List.mem_cons, Prod.mk.injEq, List.not_mem_nil, implies_true, List.getElem?_toArray, List.getElem?_cons_zero, List.getElem?_cons_succ, List.getElem?_nil, Option.getD_some, Option.getD_none, Nat.reduceEqDiff, reduceIte, Nat.reduceAdd, List.map_toArray, List.map_cons, List.map_nil, Bool.false_eq_true, Nat.reduceBEq, Option.map_some, Option.map_none, reduceCtorEq, al26, bd26, fa26_0, ld24, ld26, st26, q5.rd 2 rfl, q5.rd 3 rfl]
    refine st_set q5 2 rfl fun H6 q6 => ?_
    simp only [List.set_cons_zero, List.set_cons_succ] at q6
    simp -implicitDefEqProofs only [kk0, kk1, kk2, kk3, rW_block, ↓two_true, ↓two_false, rW_cond, rO_guard, mkv, aggAt, Nat.reduceLeDiff, Nat.reduceSub, Nat.reduceMul, cond_true, cond_false, Option.bind_some, List.length_append, List.length_cons, List.length_nil, List.append_assoc, List.cons_append, List.nil_append, List.set_cons_zero, List.set_cons_succ, List.size_toArray, List.all_cons, List.all_nil, List.drop_zero, List.drop_succ_cons, List.take_succ_cons, List.take_zero, List.mem_cons, Prod.mk.injEq, List.not_mem_nil, implies_true, List.getElem?_toArray, List.getElem?_cons_zero, List.getElem?_cons_succ, List.getElem?_nil, Option.getD_some, Option.getD_none, Nat.reduceEqDiff, reduceIte, Nat.reduceAdd, List.map_toArray, List.map_cons, List.map_nil, Bool.false_eq_true, Nat.reduceBEq, Option.map_some, Option.map_none, reduceCtorEq, al26, bd26, fa26_0, ld24, ld26, st26, q6.rd 2 rfl, q6.rd 3 rfl]
    -- end2
    exact q6.ans 0 1 (by decide) rfl rfl (by simp [shapeOfR, v1])

theorem DrawShapeOf_ok {H : AH} {v : Value} (hv : BRv H v) : CallsA Try.prog 16 #[v] H fun r H' => Dr1 H H' r := by
  refine w16 ?_
  unfold k16
  have q := (LD.nil (H := H)).box [.slice none 0 0, .slice none 0 0]
  simp -implicitDefEqProofs only [kk0, kk1, kk2, kk3, rW_block, ↓two_true, ↓two_false, rW_cond, rO_guard, oS_some, oM_some, mkv, aggAt, Nat.reduceLeDiff, Nat.reduceSub, Nat.reduceMul, cond_true, cond_false, Option.bind_some, List.length_append, List.length_cons, List.length_nil, List.append_assoc, List.cons_append, List.nil_append, List.set_cons_zero, List.set_cons_succ, List.size_toArray, List.all_cons, List.all_nil, List.drop_zero, List.drop_succ_cons, List.take_succ_cons, List.take_zero, List.mem_cons, Prod.mk.injEq, List.not_mem_nil, implies_true, List.getElem?_toArray, List.getElem?_cons_zero, List.getElem?_cons_succ, List.getElem?_nil, Option.getD_some, Option.getD_none, Nat.reduceEqDiff, reduceIte, Nat.reduceAdd, List.map_toArray, List.map_cons, List.map_nil, Bool.false_eq_true, Nat.reduceBEq, Option.map_some, Option.map_none, reduceCtorEq, al26, ld26, st26] at q ⊢
  refine (l1New_ok (hv.ext ⟨_, rfl⟩)).mono ?_
  rintro _ H1 ⟨cb, rfl, hc, hcb, he⟩
  have q := q.cursor he hc hcb
  simp only [List.length_append, List.length_cons, List.length_nil] at hcb
  simp -implicitDefEqProofs only [kk0, kk1, kk2, kk3, rW_block, ↓two_true, ↓two_false, rW_cond, rO_guard, oS_some, oM_some, mkv, aggAt, Nat.reduceLeDiff, Nat.reduceSub, Nat.reduceMul, cond_true, cond_false, Option.bind_some, List.length_append, List.length_cons, List.length_nil, List.append_assoc, List.cons_append, List.nil_append, List.set_cons_zero, List.set_cons_succ, List.size_toArray, List.all_cons, List.all_nil, List.drop_zero, List.drop_succ_cons, List.take_succ_cons, List.take_zero, List.mem_cons, Prod.mk.injEq, List.not_mem_nil, implies_true, List.getElem?_toArray, List.getElem?_cons_zero, List.getElem?_cons_succ, List.getElem?_nil, Option.getD_some, Option.getD_none, Nat.reduceEqDiff, reduceIte, Nat.reduceAdd, List.map_toArray, List.map_cons, List.map_nil, Bool.false_eq_true, Nat.reduceBEq, Option.map_some, Option.map_none, reduceCtorEq, al26, ld26, st26]
  refine (l3Draw_ok (q.cur _ rfl)).mono ?_
  rintro _ H2 ⟨⟨x, xq, xs, xd, rfl, d, x1, x2⟩, hf⟩
  have q := q.da d hf
  obtain ⟨xa, xc, rfl⟩ := d.sh.own.isSlice
  obtain ⟨xe, xf, rfl⟩ := d.dt.own.isSlice
  have w := q.set 2 rfl [.slice xa xs.length xc, .slice xe xd.length xf]
  simp -implicitDefEqProofs only [kk0, kk1, kk2, kk3, rW_block, ↓two_true, ↓two_false, rW_cond, rO_guard, oS_some, oM_some, mkv, aggAt, Nat.reduceLeDiff, Nat.reduceSub, Nat.reduceMul, cond_true, cond_false, Option.bind_some, List.length_append, List.length_cons, List.length_nil, List.append_assoc, List.cons_append, List.nil_append, List.set_cons_zero, List.set_cons_succ, List.size_toArray, List.all_cons, List.all_nil, List.drop_zero, List.drop_succ_cons, List.take_succ_cons, List.take_zero, List.mem_cons, Prod.mk.injEq, List.not_mem_nil, implies_true, List.getElem?_toArray, List.getElem?_cons_zero, List.getElem?_cons_succ, List.getElem?_nil, Option.getD_some, Option.getD_none, Nat.reduceEqDiff, reduceIte, Nat.reduceAdd, List.map_toArray, List.map_cons, List.map_nil, Bool.false_eq_true, Nat.reduceBEq, Option.map_some, Option.map_none, reduceCtorEq, al26, ld26, st26, (q.rd 2 rfl).2, (w.rd 2 rfl).1]
  exact ⟨_, _, _, _, rfl, (w.out (by omega)).pick [0, 1] (by decide), by omega, by omega⟩

theorem ARes.ans {H H' : AH} {r : Value} {R : (List Int × List Int) × Int} (h : ARes H H' r R) : Ans1 H H' r R := by
  obtain ⟨⟨a, c, b, d, rfl, h1, h2, h3, h4, h5, h6⟩, he⟩ := h
  exact ⟨_, _, rfl, ((LD.nil (H := H)).nrow2 (H' := H') ⟨h2, h5⟩ ⟨h3, h6⟩ h4 he)⟩

theorem shapeOfR_err {sa da : List Int} {R : (List Int × List Int) × Int} (hR : shapeOfR sa da = R) (h : R.2 ≠ 0) : R.1.2 = [] := by
  unfold shapeOfR at hR
  split at hR
  · subst hR; exact absurd rfl h
  · subst hR; rfl
theorem redV_mul {l : List Int} (h : ∀ x ∈ l, 0 ≤ x ∧ x ≤ 300) (hl : l.length ≤ 3) (h0 : l ≠ []) : redV 42 l = (prodI l, 0) := by
  have t : ∀ x y : Int, 0 ≤ x ∧ x ≤ 300 → 0 ≤ y ∧ y ≤ 90000 → twoF 42 x y = (x * y, 0) := by
    intro x y hx hy
    have hm : 0 ≤ x * y ∧ x * y ≤ 300 * 90000 := ⟨Int.mul_nonneg hx.1 hy.1, Int.mul_le_mul hx.2 hy.2 hy.1 (by omega)⟩
    unfold twoF
    rw [numOk_iff.2 (by omega : -1000000000000 ≤ x ∧ x ≤ 1000000000000), numOk_iff.2 (by omega : -1000000000000 ≤ y ∧ y ≤ 1000000000000), show sg2 42 = true by decide]
    have hr : raw2 42 x y = x * y := by simp [raw2]
    rw [hr, numOk_iff.2 (by omega : -1000000000000 ≤ x * y ∧ x * y ≤ 1000000000000)]
    rfl
  match l, hl, h0 with
  | [x], _, _ => simp [redV, prodI]
  | [x, y], _, _ =>
    have hx := h x (by simp)
    have hy := h y (by simp)
    simp only [redV, if_pos]
    rw [t x y hx (by omega)]
    simp [prodI]
  | [x, y, z], _, _ =>
    have hx := h x (by simp)
    have hy := h y (by simp)
    have hz := h z (by simp)
    simp only [redV, if_pos]
    rw [t y z hy (by omega)]
    have hm : 0 ≤ y * z ∧ y * z ≤ 300 * 300 := ⟨Int.mul_nonneg hy.1 hz.1, Int.mul_le_mul hy.2 hz.2 hz.1 (by omega)⟩
    simp only [if_pos]
    rw [t x (y * z) hx (by omega)]
    simp [prodI, Int.mul_assoc]
theorem arrOk_parts {sa da : List Int} (h : arrOk sa da = true) : sa.length ≤ 3 ∧ (∀ x ∈ sa, 0 ≤ x ∧ x ≤ 300) ∧ prodI sa = da.length := by
  have h1 := (arrOk_size h)
  obtain ⟨e1, e2, e3⟩ := sizeI_ok (l := sa) (by omega)
  refine ⟨e1, fun x hx => ?_, by omega⟩
  have := List.all_eq_true.1 e2 x hx
  exact inB_true.1 this
theorem arrOk_shape {sa da : List Int} (h : arrOk sa da = true) : arrOk [(sa.length : Int)] sa = true := by
  obtain ⟨e1, e2, e3⟩ := arrOk_parts h
  unfold arrOk
  simp only [Bool.and_eq_true, beq_iff_eq]
  exact ⟨(sizeI_one (by omega)).symm, List.all_eq_true.2 fun x hx => numOk_iff.2 (by have := e2 x hx; omega)⟩
theorem count_red {sa da : List Int} (h : arrOk sa da = true) : reduceR 42 [(sa.length : Int)] sa = (([], [(da.length : Int)]), 0) := by
  obtain ⟨e1, e2, e3⟩ := arrOk_parts h
  rw [reduceR_vec (by decide) rfl (arrOk_shape h)]
  split
  · rename_i h0
    have : sa = [] := List.eq_nil_of_length_eq_zero h0
    subst this
    rw [← e3]; rfl
  · rename_i h0
    rw [redV_mul e2 e1 (by rintro rfl; exact h0 rfl), e3]; rfl

set_option maxHeartbeats 4000000 in
theorem law3 : LawA Try.prog 3 [22] := by
  intro H vs hro h
  obtain ⟨v, vs, rfl, hv, h2⟩ := h.cons
  obtain rfl := h2.nil
  obtain ⟨a0, n0, c0, rfl, hb⟩ := rpBytes hv Try.underlying22 Try.underlying5 (by kernel_rfl)
  clear hv h2 hro
  have q := (LX.nil (H := H))
  refine w3 ?_
  unfold k3
  simp -implicitDefEqProofs only [kk0, kk1, kk2, kk3, rW_block, ↓two_true, ↓two_false, rW_cond, rO_guard, mkv, aggAt, Nat.reduceLeDiff, Nat.reduceSub, Nat.reduceMul, cond_true, cond_false, Option.bind_some, List.length_append, List.length_cons, List.length_nil, List.append_assoc, List.cons_append, List.nil_append, List.set_cons_zero, List.set_cons_succ, List.size_toArray, List.all_cons, List.all_nil, List.drop_zero, List.drop_succ_cons, List.take_succ_cons, List.take_zero, List.mem_cons, Prod.mk.injEq, List.not_mem_nil, implies_true, List.getElem?_toArray, List.getElem?_cons_zero, List.getElem?_cons_succ, List.getElem?_nil, Option.getD_some, Option.getD_none, Nat.reduceEqDiff, reduceIte, Nat.reduceAdd, List.map_toArray, List.map_cons, List.map_nil, Bool.false_eq_true, Nat.reduceBEq, Option.map_some, Option.map_none, reduceCtorEq, al26, fa26_0, fa26_1, ix24, ld3, ld24, ld26, ln24, st26, big_eq, bne_self_eq_false, beq_self_eq_true, Bool.and_self, cast0, List.getElem_cons_zero]
  refine two_intro (fun u1 => ?_) (fun u1 => ?_)
  ·
    try simp -implicitDefEqProofs only [kk0, kk1, kk2, kk3, rW_block, ↓two_true, ↓two_false, rW_cond, rO_guard, mkv, aggAt, Nat.reduceLeDiff, Nat.reduceSub, Nat.reduceMul, cond_true, cond_false, Option.bind_some, List.length_append, List.length_cons, List.length_nil, List.append_assoc, List.cons_append, List.nil_append, List.set_cons_zero, List.set_cons_succ, List.size_toArray, List.all_cons, List.all_nil, List.drop_zero, List.drop_succ_cons, List.take_succ_cons, List.take_zero, List.mem_cons, Prod.mk.injEq, List.not_mem_nil, implies_true, List.getElem?_toArray, List.getElem?_cons_zero, List.getElem?_cons_succ, List.getElem?_nil, Option.getD_some, Option.getD_none, Nat.reduceEqDiff, reduceIte, Nat.reduceAdd, List.map_toArray, List.map_cons, List.map_nil, Bool.false_eq_true, Nat.reduceBEq, Option.map_some, Option.map_none, reduceCtorEq, al26, fa26_0, fa26_1, ix24, ld3, ld24, ld26, ln24, st26, big_eq, bne_self_eq_false, beq_self_eq_true, Bool.and_self, cast0, List.getElem_cons_zero]
    -- end1
    all_goals trivial
  ·
    have hn0 : n0 ≤ 1048576 := by simp at u1; omega
    try simp -implicitDefEqProofs only [kk0, kk1, kk2, kk3, rW_block, ↓two_true, ↓two_false, rW_cond, rO_guard, mkv, aggAt, Nat.reduceLeDiff, Nat.reduceSub, Nat.reduceMul, cond_true, cond_false, Option.bind_some, List.length_append, List.length_cons, List.length_nil, List.append_assoc, List.cons_append, List.nil_append, List.set_cons_zero, List.set_cons_succ, List.size_toArray, List.all_cons, List.all_nil, List.drop_zero, List.drop_succ_cons, List.take_succ_cons, List.take_zero, List.mem_cons, Prod.mk.injEq, List.not_mem_nil, implies_true, List.getElem?_toArray, List.getElem?_cons_zero, List.getElem?_cons_succ, List.getElem?_nil, Option.getD_some, Option.getD_none, Nat.reduceEqDiff, reduceIte, Nat.reduceAdd, List.map_toArray, List.map_cons, List.map_nil, Bool.false_eq_true, Nat.reduceBEq, Option.map_some, Option.map_none, reduceCtorEq, al26, fa26_0, fa26_1, ix24, ld3, ld24, ld26, ln24, st26, big_eq, bne_self_eq_false, beq_self_eq_true, Bool.and_self, cast0, List.getElem_cons_zero]
    refine (DrawShapeOf_ok (BRv.ext ⟨a0, n0, c0, rfl, hn0, hb⟩ q.ext)).mono ?_
    rintro _ H1 ⟨p1, p2, sa, da, rfl, g1, lsa, lda⟩
    have q1 := q.join g1
    simp only [List.map_cons, List.map_nil, List.cons_append, List.nil_append] at q1
    obtain ⟨a1, c1, rfl⟩ := (q1.own 0 rfl).isSlice
    obtain ⟨a2, c2, rfl⟩ := (q1.own 1 rfl).isSlice
    simp -implicitDefEqProofs only [kk0, kk1, kk2, kk3, rW_block, ↓two_true, ↓two_false, rW_cond, rO_guard, mkv, aggAt, Nat.reduceLeDiff, Nat.reduceSub, Nat.reduceMul, cond_true, cond_false, Option.bind_some, List.length_append, List.length_cons, List.length_nil, List.append_assoc, List.cons_append, List.nil_append, List.set_cons_zero, List.set_cons_succ, List.size_toArray, List.all_cons, List.all_nil, List.drop_zero, List.drop_succ_cons, List.take_succ_cons, List.take_zero, List.mem_cons, Prod.mk.injEq, List.not_mem_nil, implies_true, List.getElem?_toArray, List.getElem?_cons_zero, List.getElem?_cons_succ, List.getElem?_nil, Option.getD_some, Option.getD_none, Nat.reduceEqDiff, reduceIte, Nat.reduceAdd, List.map_toArray, List.map_cons, List.map_nil, Bool.false_eq_true, Nat.reduceBEq, Option.map_some, Option.map_none, reduceCtorEq, al26, fa26_0, fa26_1, ix24, ld3, ld24, ld26, ln24, st26, big_eq, bne_self_eq_false, beq_self_eq_true, Bool.and_self, cast0, List.getElem_cons_zero]
    refine st_box q1 fun H2 q2 => ?_
    simp -implicitDefEqProofs only [kk0, kk1, kk2, kk3, rW_block, ↓two_true, ↓two_false, rW_cond, rO_guard, mkv, aggAt, Nat.reduceLeDiff, Nat.reduceSub, Nat.reduceMul, cond_true, cond_false, Option.bind_some, List.length_append, List.length_cons, List.length_nil, List.append_assoc, List.cons_append, List.nil_append, List.set_cons_zero, List.set_cons_succ, List.size_toArray, List.all_cons, List.all_nil, List.drop_zero, List.drop_succ_cons, List.take_succ_cons, List.take_zero, List.mem_cons, Prod.mk.injEq, List.not_mem_nil, implies_true, List.getElem?_toArray, List.getElem?_cons_zero, List.getElem?_cons_succ, List.getElem?_nil, Option.getD_some, Option.getD_none, Nat.reduceEqDiff, reduceIte, Nat.reduceAdd, List.map_toArray, List.map_cons, List.map_nil, Bool.false_eq_true, Nat.reduceBEq, Option.map_some, Option.map_none, reduceCtorEq, al26, fa26_0, fa26_1, ix24, ld3, ld24, ld26, ln24, st26, big_eq, bne_self_eq_false, beq_self_eq_true, Bool.and_self, cast0, List.getElem_cons_zero, q2.rd 0 rfl]
    refine st_set q2 0 rfl fun H3 q3 => ?_
    simp only [List.set_cons_zero, List.set_cons_succ] at q3
    simp -implicitDefEqProofs only [kk0, kk1, kk2, kk3, rW_block, ↓two_true, ↓two_false, rW_cond, rO_guard, mkv, aggAt, Nat.reduceLeDiff, Nat.reduceSub, Nat.reduceMul, cond_true, cond_false, Option.bind_some, List.length_append, List.length_cons, List.length_nil, List.append_assoc, List.cons_append, List.nil_append, List.set_cons_zero, List.set_cons_succ, List.size_toArray, List.all_cons, List.all_nil, List.drop_zero, List.drop_succ_cons, List.take_succ_cons, List.take_zero, List.mem_cons, Prod.mk.injEq, List.not_mem_nil, implies_true, List.getElem?_toArray, List.getElem?_cons_zero, List.getElem?_cons_succ, List.getElem?_nil, Option.getD_some, Option.getD_none, Nat.reduceEqDiff, reduceIte, Nat.reduceAdd, List.map_toArray, List.map_cons, List.map_nil, Bool.false_eq_true, Nat.reduceBEq, Option.map_some, Option.map_none, reduceCtorEq, al26, fa26_0, fa26_1, ix24, ld3, ld24, ld26, ln24, st26, big_eq, bne_self_eq_false, beq_self_eq_true, Bool.and_self, cast0, List.getElem_cons_zero, q3.rd 0 rfl]
    refine (implShapeOf_ok (q3.ar 1 2 rfl rfl (by (try simp only [List.length_cons, List.length_nil, List.length_append, List.length_replicate, List.length_map, List.length_take, List.length_drop]); omega) (by (try simp only [List.length_cons, List.length_nil, List.length_append, List.length_replicate, List.length_map, List.length_take, List.length_drop]); omega))).mono ?_
    rintro _ H4 ⟨p3, p4, rfl, g2⟩
    obtain ⟨R1, hR1⟩ : ∃ R, shapeOfR sa da = R := ⟨_, rfl⟩
    rw [hR1] at g2 ⊢
    have q4 := q3.join g2
    simp only [List.map_cons, List.map_nil, List.cons_append, List.nil_append] at q4
    obtain ⟨a3, c3, rfl⟩ := (q4.own 0 rfl).isSlice
    obtain ⟨a4, c4, rfl⟩ := (q4.own 1 rfl).isSlice
    simp -implicitDefEqProofs only [kk0, kk1, kk2, kk3, rW_block, ↓two_true, ↓two_false, rW_cond, rO_guard, mkv, aggAt, Nat.reduceLeDiff, Nat.reduceSub, Nat.reduceMul, cond_true, cond_false, Option.bind_some, List.length_append, List.length_cons, List.length_nil, List.append_assoc, List.cons_append, List.nil_append, List.set_cons_zero, List.set_cons_succ, List.size_toArray, List.all_cons, List.all_nil, List.drop_zero, List.drop_succ_cons, List.take_succ_cons, List.take_zero, List.mem_cons, Prod.mk.injEq, List.not_mem_nil, implies_true, List.getElem?_toArray, List.getElem?_cons_zero, List.getElem?_cons_succ, List.getElem?_nil, Option.getD_some, Option.getD_none, Nat.reduceEqDiff, reduceIte, Nat.reduceAdd, List.map_toArray, List.map_cons, List.map_nil, Bool.false_eq_true, Nat.reduceBEq, Option.map_some, Option.map_none, reduceCtorEq, al26, fa26_0, fa26_1, ix24, ld3, ld24, ld26, ln24, st26, big_eq, bne_self_eq_false, beq_self_eq_true, Bool.and_self, cast0, List.getElem_cons_zero, q4.rd 2 rfl]
    refine st_box q4 fun H5 q5 => ?_
    simp -implicitDefEqProofs only [kk0, kk1, kk2, kk3, rW_block, ↓two_true, ↓two_false, rW_cond, rO_guard, mkv, aggAt, Nat.reduceLeDiff, Nat.reduceSub, Nat.reduceMul, cond_true, cond_false, Option.bind_some, List.length_append, List.length_cons, List.length_nil, List.append_assoc, List.cons_append, List.nil_append, List.set_cons_zero, List.set_cons_succ, List.size_toArray, List.all_cons, List.all_nil, List.drop_zero, List.drop_succ_cons, List.take_succ_cons, List.take_zero, List.mem_cons, Prod.mk.injEq, List.not_mem_nil, implies_true, List.getElem?_toArray, List.getElem?_cons_zero, List.getElem?_cons_succ, List.getElem?_nil, Option.getD_some, Option.getD_none, Nat.reduceEqDiff, reduceIte, Nat.reduceAdd, List.map_toArray, List.map_cons, List.map_nil, Bool.false_eq_true, Nat.reduceBEq, Option.map_some, Option.map_none, reduceCtorEq, al26, fa26_0, fa26_1, ix24, ld3, ld24, ld26, ln24, st26, big_eq, bne_self_eq_false, beq_self_eq_true, Bool.and_self, cast0, List.getElem_cons_zero, q5.rd 0 rfl, q5.rd 3 rfl]
    refine st_set q5 0 rfl fun H6 q6 => ?_
    simp only [List.set_cons_zero, List.set_cons_succ] at q6
    simp -implicitDefEqProofs only [kk0, kk1, kk2, kk3, rW_block, ↓two_true, ↓two_false, rW_cond, rO_guard, mkv, aggAt, Nat.reduceLeDiff, Nat.reduceSub, Nat.reduceMul, cond_true, cond_false, Option.bind_some, List.length_append, List.length_cons, List.length_nil, List.append_assoc, List.cons_append, List.nil_append, List.set_cons_zero, List.set_cons_succ, List.size_toArray, List.all_cons, List.all_nil, List.drop_zero, List.drop_succ_cons, List.take_succ_cons, List.take_zero, List.mem_cons, Prod.mk.injEq, List.not_mem_nil, implies_true, List.getElem?_toArray, List.getElem?_cons_zero, List.getElem?_cons_succ, List.getElem?_nil, Option.getD_some, Option.getD_none, Nat.reduceEqDiff, reduceIte, Nat.reduceAdd, List.map_toArray, List.map_cons, List.map_nil, Bool.false_eq_true, Nat.reduceBEq, Option.map_some, Option.map_none, reduceCtorEq, al26, fa26_0, fa26_1, ix24, ld3, ld24, ld26, ln24, st26, big_eq, bne_self_eq_false, beq_self_eq_true, Bool.and_self, cast0, List.getElem_cons_zero, q6.rd 0 rfl, q6.rd 3 rfl]
    refine (specShapeOf_ok (q6.ar 4 5 rfl rfl (by (try simp only [List.length_cons, List.length_nil, List.length_append, List.length_replicate, List.length_map, List.length_take, List.length_drop]); omega) (by (try simp only [List.length_cons, List.length_nil, List.length_append, List.length_replicate, List.length_map, List.length_take, List.length_drop]); omega))).mono ?_
    rintro _ H7 ⟨p5, p6, rfl, g3⟩
    rw [hR1] at g3 ⊢
    have q7 := q6.join g3
    simp only [List.map_cons, List.map_nil, List.cons_append, List.nil_append] at q7
    obtain ⟨a5, c5, rfl⟩ := (q7.own 0 rfl).isSlice
    obtain ⟨a6, c6, rfl⟩ := (q7.own 1 rfl).isSlice
    simp -implicitDefEqProofs only [kk0, kk1, kk2, kk3, rW_block, ↓two_true, ↓two_false, rW_cond, rO_guard, mkv, aggAt, Nat.reduceLeDiff, Nat.reduceSub, Nat.reduceMul, cond_true, cond_false, Option.bind_some, List.length_append, List.length_cons, List.length_nil, List.append_assoc, List.cons_append, List.nil_append, List.set_cons_zero, List.set_cons_succ, List.size_toArray, List.all_cons, List.all_nil, List.drop_zero, List.drop_succ_cons, List.take_succ_cons, List.take_zero, List.mem_cons, Prod.mk.injEq, List.not_mem_nil, implies_true, List.getElem?_toArray, List.getElem?_cons_zero, List.getElem?_cons_succ, List.getElem?_nil, Option.getD_some, Option.getD_none, Nat.reduceEqDiff, reduceIte, Nat.reduceAdd, List.map_toArray, List.map_cons, List.map_nil, Bool.false_eq_true, Nat.reduceBEq, Option.map_some, Option.map_none, reduceCtorEq, al26, fa26_0, fa26_1, ix24, ld3, ld24, ld26, ln24, st26, big_eq, bne_self_eq_false, beq_self_eq_true, Bool.and_self, cast0, List.getElem_cons_zero, q7.rd 2 rfl, q7.rd 5 rfl]
    refine st_box q7 fun H8 q8 => ?_
    simp -implicitDefEqProofs only [kk0, kk1, kk2, kk3, rW_block, ↓two_true, ↓two_false, rW_cond, rO_guard, mkv, aggAt, Nat.reduceLeDiff, Nat.reduceSub, Nat.reduceMul, cond_true, cond_false, Option.bind_some, List.length_append, List.length_cons, List.length_nil, List.append_assoc, List.cons_append, List.nil_append, List.set_cons_zero, List.set_cons_succ, List.size_toArray, List.all_cons, List.all_nil, List.drop_zero, List.drop_succ_cons, List.take_succ_cons, List.take_zero, List.mem_cons, Prod.mk.injEq, List.not_mem_nil, implies_true, List.getElem?_toArray, List.getElem?_cons_zero, List.getElem?_cons_succ, List.getElem?_nil, Option.getD_some, Option.getD_none, Nat.reduceEqDiff, reduceIte, Nat.reduceAdd, List.map_toArray, List.map_cons, List.map_nil, Bool.false_eq_true, Nat.reduceBEq, Option.map_some, Option.map_none, reduceCtorEq, al26, fa26_0, fa26_1, ix24, ld3, ld24, ld26, ln24, st26, big_eq, bne_self_eq_false, beq_self_eq_true, Bool.and_self, cast0, List.getElem_cons_zero, q8.rd 0 rfl, q8.rd 3 rfl, q8.rd 6 rfl]
    refine st_set q8 0 rfl fun H9 q9 => ?_
    simp only [List.set_cons_zero, List.set_cons_succ] at q9
    simp -implicitDefEqProofs only [kk0, kk1, kk2, kk3, rW_block, ↓two_true, ↓two_false, rW_cond, rO_guard, mkv, aggAt, Nat.reduceLeDiff, Nat.reduceSub, Nat.reduceMul, cond_true, cond_false, Option.bind_some, List.length_append, List.length_cons, List.length_nil, List.append_assoc, List.cons_append, List.nil_append, List.set_cons_zero, List.set_cons_succ, List.size_toArray, List.all_cons, List.all_nil, List.drop_zero, List.drop_succ_cons, List.take_succ_cons, List.take_zero, List.mem_cons, Prod.mk.injEq, List.not_mem_nil, implies_true, List.getElem?_toArray, List.getElem?_cons_zero, List.getElem?_cons_succ, List.getElem?_nil, Option.getD_some, Option.getD_none, Nat.reduceEqDiff, reduceIte, Nat.reduceAdd, List.map_toArray, List.map_cons, List.map_nil, Bool.false_eq_true, Nat.reduceBEq, Option.map_some, Option.map_none, reduceCtorEq, al26, fa26_0, fa26_1, ix24, ld3, ld24, ld26, ln24, st26, big_eq, bne_self_eq_false, beq_self_eq_true, Bool.and_self, cast0, List.getElem_cons_zero, q9.rd 0 rfl, q9.rd 3 rfl, q9.rd 6 rfl]
    refine two_intro (fun u2 => ?_) (fun u2 => ?_)
    ·
      have hR0 : R1.2 ≠ 0 := by simpa using u2
      have hRn := shapeOfR_err hR1 hR0
      try simp -implicitDefEqProofs only [kk0, kk1, kk2, kk3, rW_block, ↓two_true, ↓two_false, rW_cond, rO_guard, mkv, aggAt, Nat.reduceLeDiff, Nat.reduceSub, Nat.reduceMul, cond_true, cond_false, Option.bind_some, List.length_append, List.length_cons, List.length_nil, List.append_assoc, List.cons_append, List.nil_append, List.set_cons_zero, List.set_cons_succ, List.size_toArray, List.all_cons, List.all_nil, List.drop_zero, List.drop_succ_cons, List.take_succ_cons, List.take_zero, List.mem_cons, Prod.mk.injEq, List.not_mem_nil, implies_true, List.getElem?_toArray, List.getElem?_cons_zero, List.getElem?_cons_succ, List.getElem?_nil, Option.getD_some, Option.getD_none, Nat.reduceEqDiff, reduceIte, Nat.reduceAdd, List.map_toArray, List.map_cons, List.map_nil, Bool.false_eq_true, Nat.reduceBEq, Option.map_some, Option.map_none, reduceCtorEq, al26, fa26_0, fa26_1, ix24, ld3, ld24, ld26, ln24, st26, big_eq, bne_self_eq_false, beq_self_eq_true, Bool.and_self, cast0, List.getElem_cons_zero, q9.rd 0 rfl, q9.rd 3 rfl, q9.rd 6 rfl]
      -- end2
      first | (rw [hRn]; rfl) | (simp; done) | (simp [hRd]; done)
    ·
      have hR0 : R1.2 = 0 := by simpa using u2
      have va : arrOk sa da = true := by
        rcases Bool.eq_false_or_eq_true (arrOk sa da) with e | e
        · exact e
        · rw [← hR1] at hR0; unfold shapeOfR at hR0; rw [e] at hR0; exact absurd hR0 (show ¬ ((1 : Int) = 0) by decide)
      have hRe : R1 = (([(sa.length : Int)], sa), 0) := by rw [← hR1]; unfold shapeOfR; rw [va]; rfl
      obtain ⟨w1, w2, w3⟩ := arrOk_parts va
      have wda := arrOk_len va
      have hRs : R1.1.1 = [(sa.length : Int)] := by rw [hRe]
      have hRd : R1.1.2 = sa := by rw [hRe]
      have hRl : R1.1.1.length ≤ 1048576 := by rw [hRs]; simp
      have hRf : R1.1.2.length ≤ 1048576 := by rw [hRd]; omega
      try simp -implicitDefEqProofs only [kk0, kk1, kk2, kk3, rW_block, ↓two_true, ↓two_false, rW_cond, rO_guard, mkv, aggAt, Nat.reduceLeDiff, Nat.reduceSub, Nat.reduceMul, cond_true, cond_false, Option.bind_some, List.length_append, List.length_cons, List.length_nil, List.append_assoc, List.cons_append, List.nil_append, List.set_cons_zero, List.set_cons_succ, List.size_toArray, List.all_cons, List.all_nil, List.drop_zero, List.drop_succ_cons, List.take_succ_cons, List.take_zero, List.mem_cons, Prod.mk.injEq, List.not_mem_nil, implies_true, List.getElem?_toArray, List.getElem?_cons_zero, List.getElem?_cons_succ, List.getElem?_nil, Option.getD_some, Option.getD_none, Nat.reduceEqDiff, reduceIte, Nat.reduceAdd, List.map_toArray, List.map_cons, List.map_nil, Bool.false_eq_true, Nat.reduceBEq, Option.map_some, Option.map_none, reduceCtorEq, al26, fa26_0, fa26_1, ix24, ld3, ld24, ld26, ln24, st26, big_eq, bne_self_eq_false, beq_self_eq_true, Bool.and_self, cast0, List.getElem_cons_zero, q9.rd 0 rfl, q9.rd 3 rfl, q9.rd 6 rfl]
      have hk1 := implReduce_ok (q9.ar 4 5 rfl rfl (by (try simp only [List.length_cons, List.length_nil, List.length_append, List.length_replicate, List.length_map, List.length_take, List.length_drop]); omega) (by (try simp only [List.length_cons, List.length_nil, List.length_append, List.length_replicate, List.length_map, List.length_take, List.length_drop]); omega)) (s := 42) (fun _ => by rw [hRs]; exact (show 0 ≤ sizeI [] by decide)) 
      rw [show reduceR 42 R1.1.1 R1.1.2 = (([], [(da.length : Int)]), 0) by rw [hRs, hRd]; exact count_red va] at hk1
      refine hk1.mono ?_
      rintro _ H10 ⟨p7, p8, rfl, g4⟩
      have q10 := q9.join g4
      simp only [List.map_cons, List.map_nil, List.cons_append, List.nil_append] at q10
      obtain ⟨a7, c7, rfl⟩ := (q10.own 0 rfl).isSlice
      obtain ⟨a8, c8, rfl⟩ := (q10.own 1 rfl).isSlice
      simp -implicitDefEqProofs only [kk0, kk1, kk2, kk3, rW_block, ↓two_true, ↓two_false, rW_cond, rO_guard, mkv, aggAt, Nat.reduceLeDiff, Nat.reduceSub, Nat.reduceMul, cond_true, cond_false, Option.bind_some, List.length_append, List.length_cons, List.length_nil, List.append_assoc, List.cons_append, List.nil_append, List.set_cons_zero, List.set_cons_succ, List.size_toArray, List.all_cons, List.all_nil, List.drop_zero, List.drop_succ_cons, List.take_succ_cons, List.take_zero, List.mem_cons, Prod.mk.injEq, List.not_mem_nil, implies_true, List.getElem?_toArray, List.getElem?_cons_zero, List.getElem?_cons_succ, List.getElem?_nil, Option.getD_some, Option.getD_none, Nat.reduceEqDiff, reduceIte, Nat.reduceAdd, List.map_toArray, List.map_cons, List.map_nil, Bool.false_eq_true, Nat.reduceBEq, Option.map_some, Option.map_none, reduceCtorEq, al26, fa26_0, fa26_1, ix24, ld3, ld24, ld26, ln24, st26, big_eq, bne_self_eq_false, beq_self_eq_true, Bool.and_self, cast0, List.getElem_cons_zero, q10.rd 2 rfl, q10.rd 5 rfl, q10.rd 8 rfl]
      refine st_box q10 fun H11 q11 => ?_
      simp -implicitDefEqProofs only [kk0, kk1, kk2, kk3, rW_block, ↓two_true, ↓two_false, rW_cond, rO_guard, mkv, aggAt, Nat.reduceLeDiff, Nat.reduceSub, Nat.reduceMul, cond_true, cond_false, Option.bind_some, List.length_append, List.length_cons, List.length_nil, List.append_assoc, List.cons_append, List.nil_append, List.set_cons_zero, List.set_cons_succ, List.size_toArray, List.all_cons, List.all_nil, List.drop_zero, List.drop_succ_cons, List.take_succ_cons, List.take_zero, List.mem_cons, Prod.mk.injEq, List.not_mem_nil, implies_true, List.getElem?_toArray, List.getElem?_cons_zero, List.getElem?_cons_succ, List.getElem?_nil, Option.getD_some, Option.getD_none, Nat.reduceEqDiff, reduceIte, Nat.reduceAdd, List.map_toArray, List.map_cons, List.map_nil, Bool.false_eq_true, Nat.reduceBEq, Option.map_some, Option.map_none, reduceCtorEq, al26, fa26_0, fa26_1, ix24, ld3, ld24, ld26, ln24, st26, big_eq, bne_self_eq_false, beq_self_eq_true, Bool.and_self, cast0, List.getElem_cons_zero, q11.rd 0 rfl, q11.rd 3 rfl, q11.rd 6 rfl, q11.rd 9 rfl]
      refine st_set q11 0 rfl fun H12 q12 => ?_
      simp only [List.set_cons_zero, List.set_cons_succ] at q12
      simp -implicitDefEqProofs only [kk0, kk1, kk2, kk3, rW_block, ↓two_true, ↓two_false, rW_cond, rO_guard, mkv, aggAt, Nat.reduceLeDiff, Nat.reduceSub, Nat.reduceMul, cond_true, cond_false, Option.bind_some, List.length_append, List.length_cons, List.length_nil, List.append_assoc, List.cons_append, List.nil_append, List.set_cons_zero, List.set_cons_succ, List.size_toArray, List.all_cons, List.all_nil, List.drop_zero, List.drop_succ_cons, List.take_succ_cons, List.take_zero, List.mem_cons, Prod.mk.injEq, List.not_mem_nil, implies_true, List.getElem?_toArray, List.getElem?_cons_zero, List.getElem?_cons_succ, List.getElem?_nil, Option.getD_some, Option.getD_none, Nat.reduceEqDiff, reduceIte, Nat.reduceAdd, List.map_toArray, List.map_cons, List.map_nil, Bool.false_eq_true, Nat.reduceBEq, Option.map_some, Option.map_none, reduceCtorEq, al26, fa26_0, fa26_1, ix24, ld3, ld24, ld26, ln24, st26, big_eq, bne_self_eq_false, beq_self_eq_true, Bool.and_self, cast0, List.getElem_cons_zero, q12.rd 0 rfl, q12.rd 3 rfl, q12.rd 6 rfl, q12.rd 9 rfl]
      have hk2 := ravel_ok (q12.ar 10 11 rfl rfl (by (try simp only [List.length_cons, List.length_nil, List.length_append, List.length_replicate, List.length_map, List.length_take, List.length_drop]); omega) (by (try simp only [List.length_cons, List.length_nil, List.length_append, List.length_replicate, List.length_map, List.length_take, List.length_drop]); omega))
      rw [show ravelR sa da = (([(da.length : Int)], da), 0) by unfold ravelR; rw [va]; rfl] at hk2
      refine hk2.mono ?_
      rintro _ H13 ⟨p9, p10, rfl, g5⟩
      have q13 := q12.join g5
      simp only [List.map_cons, List.map_nil, List.cons_append, List.nil_append] at q13
      obtain ⟨a9, c9, rfl⟩ := (q13.own 0 rfl).isSlice
      obtain ⟨a10, c10, rfl⟩ := (q13.own 1 rfl).isSlice
      simp -implicitDefEqProofs only [kk0, kk1, kk2, kk3, rW_block, ↓two_true, ↓two_false, rW_cond, rO_guard, mkv, aggAt, Nat.reduceLeDiff, Nat.reduceSub, Nat.reduceMul, cond_true, cond_false, Option.bind_some, List.length_append, List.length_cons, List.length_nil, List.append_assoc, List.cons_append, List.nil_append, List.set_cons_zero, List.set_cons_succ, List.size_toArray, List.all_cons, List.all_nil, List.drop_zero, List.drop_succ_cons, List.take_succ_cons, List.take_zero, List.mem_cons, Prod.mk.injEq, List.not_mem_nil, implies_true, List.getElem?_toArray, List.getElem?_cons_zero, List.getElem?_cons_succ, List.getElem?_nil, Option.getD_some, Option.getD_none, Nat.reduceEqDiff, reduceIte, Nat.reduceAdd, List.map_toArray, List.map_cons, List.map_nil, Bool.false_eq_true, Nat.reduceBEq, Option.map_some, Option.map_none, reduceCtorEq, al26, fa26_0, fa26_1, ix24, ld3, ld24, ld26, ln24, st26, big_eq, bne_self_eq_false, beq_self_eq_true, Bool.and_self, cast0, List.getElem_cons_zero, q13.rd 2 rfl, q13.rd 5 rfl, q13.rd 8 rfl, q13.rd 11 rfl]
      refine st_box q13 fun H14 q14 => ?_
      simp -implicitDefEqProofs only [kk0, kk1, kk2, kk3, rW_block, ↓two_true, ↓two_false, rW_cond, rO_guard, mkv, aggAt, Nat.reduceLeDiff, Nat.reduceSub, Nat.reduceMul, cond_true, cond_false, Option.bind_some, List.length_append, List.length_cons, List.length_nil, List.append_assoc, List.cons_append, List.nil_append, List.set_cons_zero, List.set_cons_succ, List.size_toArray, List.all_cons, List.all_nil, List.drop_zero, List.drop_succ_cons, List.take_succ_cons, List.take_zero, List.mem_cons, Prod.mk.injEq, List.not_mem_nil, implies_true, List.getElem?_toArray, List.getElem?_cons_zero, List.getElem?_cons_succ, List.getElem?_nil, Option.getD_some, Option.getD_none, Nat.reduceEqDiff, reduceIte, Nat.reduceAdd, List.map_toArray, List.map_cons, List.map_nil, Bool.false_eq_true, Nat.reduceBEq, Option.map_some, Option.map_none, reduceCtorEq, al26, fa26_0, fa26_1, ix24, ld3, ld24, ld26, ln24, st26, big_eq, bne_self_eq_false, beq_self_eq_true, Bool.and_self, cast0, List.getElem_cons_zero, q14.rd 0 rfl, q14.rd 3 rfl, q14.rd 6 rfl, q14.rd 9 rfl, q14.rd 12 rfl]
      refine st_set q14 0 rfl fun H15 q15 => ?_
      simp only [List.set_cons_zero, List.set_cons_succ] at q15
      simp -implicitDefEqProofs only [kk0, kk1, kk2, kk3, rW_block, ↓two_true, ↓two_false, rW_cond, rO_guard, mkv, aggAt, Nat.reduceLeDiff, Nat.reduceSub, Nat.reduceMul, cond_true, cond_false, Option.bind_some, List.length_append, List.length_cons, List.length_nil, List.append_assoc, List.cons_append, List.nil_append, List.set_cons_zero, List.set_cons_succ, List.size_toArray, List.all_cons, List.all_nil, List.drop_zero, List.drop_succ_cons, List.take_succ_cons, List.take_zero, List.mem_cons, Prod.mk.injEq, List.not_mem_nil, implies_true, List.getElem?_toArray, List.getElem?_cons_zero, List.getElem?_cons_succ, List.getElem?_nil, Option.getD_some, Option.getD_none, Nat.reduceEqDiff, reduceIte, Nat.reduceAdd, List.map_toArray, List.map_cons, List.map_nil, Bool.false_eq_true, Nat.reduceBEq, Option.map_some, Option.map_none, reduceCtorEq, al26, fa26_0, fa26_1, ix24, ld3, ld24, ld26, ln24, st26, big_eq, bne_self_eq_false, beq_self_eq_true, Bool.and_self, cast0, List.getElem_cons_zero, q15.rd 0 rfl, q15.rd 3 rfl, q15.rd 6 rfl, q15.rd 9 rfl, q15.rd 12 rfl]
      have hk3 := implShapeOf_ok (q15.ar 1 2 rfl rfl (by (try simp only [List.length_cons, List.length_nil, List.length_append, List.length_replicate, List.length_map, List.length_take, List.length_drop]); omega) (by (try simp only [List.length_cons, List.length_nil, List.length_append, List.length_replicate, List.length_map, List.length_take, List.length_drop]); omega))
      rw [show shapeOfR [(da.length : Int)] da = (([1], [(da.length : Int)]), 0) by unfold shapeOfR; rw [if_pos (arrOk_vec va)]; rfl] at hk3
      refine hk3.mono ?_
      rintro _ H16 ⟨p11, p12, rfl, g6⟩
      have q16 := q15.join g6
      simp only [List.map_cons, List.map_nil, List.cons_append, List.nil_append] at q16
      obtain ⟨a11, c11, rfl⟩ := (q16.own 0 rfl).isSlice
      obtain ⟨a12, c12, rfl⟩ := (q16.own 1 rfl).isSlice
      simp -implicitDefEqProofs only [kk0, kk1, kk2, kk3, rW_block, ↓two_true, ↓two_false, rW_cond, rO_guard, mkv, aggAt, Nat.reduceLeDiff, Nat.reduceSub, Nat.reduceMul, cond_true, cond_false, Option.bind_some, List.length_append, List.length_cons, List.length_nil, List.append_assoc, List.cons_append, List.nil_append, List.set_cons_zero, List.set_cons_succ, List.size_toArray, List.all_cons, List.all_nil, List.drop_zero, List.drop_succ_cons, List.take_succ_cons, List.take_zero, List.mem_cons, Prod.mk.injEq, List.not_mem_nil, implies_true, List.getElem?_toArray, List.getElem?_cons_zero, List.getElem?_cons_succ, List.getElem?_nil, Option.getD_some, Option.getD_none, Nat.reduceEqDiff, reduceIte, Nat.reduceAdd, List.map_toArray, List.map_cons, List.map_nil, Bool.false_eq_true, Nat.reduceBEq, Option.map_some, Option.map_none, reduceCtorEq, al26, fa26_0, fa26_1, ix24, ld3, ld24, ld26, ln24, st26, big_eq, bne_self_eq_false, beq_self_eq_true, Bool.and_self, cast0, List.getElem_cons_zero, q16.rd 2 rfl, q16.rd 5 rfl, q16.rd 8 rfl, q16.rd 11 rfl, q16.rd 14 rfl]
      refine st_box q16 fun H17 q17 => ?_
      simp -implicitDefEqProofs only [kk0, kk1, kk2, kk3, rW_block, ↓two_true, ↓two_false, rW_cond, rO_guard, mkv, aggAt, Nat.reduceLeDiff, Nat.reduceSub, Nat.reduceMul, cond_true, cond_false, Option.bind_some, List.length_append, List.length_cons, List.length_nil, List.append_assoc, List.cons_append, List.nil_append, List.set_cons_zero, List.set_cons_succ, List.size_toArray, List.all_cons, List.all_nil, List.drop_zero, List.drop_succ_cons, List.take_succ_cons, List.take_zero, List.mem_cons, Prod.mk.injEq, List.not_mem_nil, implies_true, List.getElem?_toArray, List.getElem?_cons_zero, List.getElem?_cons_succ, List.getElem?_nil, Option.getD_some, Option.getD_none, Nat.reduceEqDiff, reduceIte, Nat.reduceAdd, List.map_toArray, List.map_cons, List.map_nil, Bool.false_eq_true, Nat.reduceBEq, Option.map_some, Option.map_none, reduceCtorEq, al26, fa26_0, fa26_1, ix24, ld3, ld24, ld26, ln24, st26, big_eq, bne_self_eq_false, beq_self_eq_true, Bool.and_self, cast0, List.getElem_cons_zero, q17.rd 0 rfl, q17.rd 3 rfl, q17.rd 6 rfl, q17.rd 9 rfl, q17.rd 12 rfl, q17.rd 15 rfl]
      refine st_set q17 0 rfl fun H18 q18 => ?_
      simp only [List.set_cons_zero, List.set_cons_succ] at q18
      obtain ⟨b1, o1, cs1, ei1, fr1, fc1⟩ := ixI0 (q18.int 8 rfl) (List.getElem?_eq_getElem (by simp))
      simp only [List.length_cons, List.length_nil, Nat.zero_add, List.getElem_cons_zero] at ei1 fc1
      obtain ⟨b2, o2, cs2, ei2, fr2, fc2⟩ := ixI0 (q18.int 2 rfl) (List.getElem?_eq_getElem (by simp))
      simp only [List.length_cons, List.length_nil, Nat.zero_add, List.getElem_cons_zero] at ei2 fc2
      have es1 := fun Φ => (sameInts_ok (q18.int 14 rfl) (q18.int 16 rfl) (by (try simp only [List.length_cons, List.length_nil, List.length_append, List.length_replicate, List.length_map, List.length_take, List.length_drop]); omega)).eq0 (Φ := Φ)
      simp -implicitDefEqProofs only [kk0, kk1, kk2, kk3, rW_block, ↓two_true, ↓two_false, rW_cond, rO_guard, mkv, aggAt, Nat.reduceLeDiff, Nat.reduceSub, Nat.reduceMul, cond_true, cond_false, Option.bind_some, List.length_append, List.length_cons, List.length_nil, List.append_assoc, List.cons_append, List.nil_append, List.set_cons_zero, List.set_cons_succ, List.size_toArray, List.all_cons, List.all_nil, List.drop_zero, List.drop_succ_cons, List.take_succ_cons, List.take_zero, List.mem_cons, Prod.mk.injEq, List.not_mem_nil, implies_true, List.getElem?_toArray, List.getElem?_cons_zero, List.getElem?_cons_succ, List.getElem?_nil, Option.getD_some, Option.getD_none, Nat.reduceEqDiff, reduceIte, Nat.reduceAdd, List.map_toArray, List.map_cons, List.map_nil, Bool.false_eq_true, Nat.reduceBEq, Option.map_some, Option.map_none, reduceCtorEq, al26, fa26_0, fa26_1, ix24, ld3, ld24, ld26, ln24, st26, big_eq, bne_self_eq_false, beq_self_eq_true, Bool.and_self, cast0, List.getElem_cons_zero, es1, ei1, fr1, fc1, ei2, fr2, fc2, q18.rd 0 rfl, q18.rd 3 rfl, q18.rd 6 rfl, q18.rd 9 rfl, q18.rd 12 rfl, q18.rd 15 rfl]
      -- end3
      first | (rw [hRn]; rfl) | (simp; done) | (simp [hRd]; done)

end Go.Proofs.Ytockhdhilemfkaa.AM
