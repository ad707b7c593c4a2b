/- What the functions answer, part 3. -/
import Derived.Test.YtmlimgdpcoloiaaP2
set_option linter.unusedVariables false
set_option linter.unusedSimpArgs false
set_option linter.defProp false
set_option maxRecDepth 100000
/- What the functions answer, part 3. -/
namespace Go.Proofs.Ytmlimgdpcoloiaa.AM
open Go Go.Proofs.Ytmlimgdpcoloiaa Go.Proofs
theorem specFit_ok {H : AH} {pa qa pb qb : Value} {sa da sb db : List Int} (a : AR H pa qa sa da) (b : AR H pb qb sb db) : CallsA Try.prog 210 #[.agg #[pa, qa], .agg #[pb, qb]] H fun r H' => AnsR H H' r (fitR sa da sb db) := by
  have al := a.l1
  have bl := a.l2
  have al2 := b.l1
  have bl2 := b.l2
  obtain ⟨za, zc, zb, zd, rfl, rfl⟩ := a.o1
  obtain ⟨ya, yc, yb, yd, rfl, rfl⟩ := b.o1
  have q := (LX.nil (H := H))
  refine w210 ?_
  unfold k210
  simp -implicitDefEqProofs only [kz, kk0, kk1, kk2, kk3, ↓two_true, ↓two_false, mkv, aggAt, Nat.reduceLeDiff, Nat.reduceSub, Nat.reduceMul, implies_true, Nat.reduceEqDiff, reduceIte, Nat.reduceAdd, Nat.reduceBEq, reduceCtorEq, ap22_22, bs22_0, fa26_0, ld22, ld26, ln22]
  refine st_box q fun H1 q1 => ?_
  simp -implicitDefEqProofs only [kz, kk0, kk1, kk2, kk3, ↓two_true, ↓two_false, mkv, aggAt, Nat.reduceLeDiff, Nat.reduceSub, Nat.reduceMul, implies_true, Nat.reduceEqDiff, reduceIte, Nat.reduceAdd, Nat.reduceBEq, reduceCtorEq, ap22_22, bs22_0, fa26_0, ld22, ld26, ln22, q1.rd 0 rfl]
  refine st_box q1 fun H2 q2 => ?_
  simp -implicitDefEqProofs only [kz, kk0, kk1, kk2, kk3, ↓two_true, ↓two_false, mkv, aggAt, Nat.reduceLeDiff, Nat.reduceSub, Nat.reduceMul, implies_true, Nat.reduceEqDiff, reduceIte, Nat.reduceAdd, Nat.reduceBEq, reduceCtorEq, ap22_22, bs22_0, fa26_0, ld22, ld26, ln22, q2.rd 0 rfl, q2.rd 1 rfl]
  refine (specOk_ar (a.ext q2.ext)).mono ?_
  rintro _ H3 ⟨rfl, he1⟩
  have q3 := q2.extd he1
  simp -implicitDefEqProofs only [kz, kk0, kk1, kk2, kk3, ↓two_true, ↓two_false, mkv, aggAt, Nat.reduceLeDiff, Nat.reduceSub, Nat.reduceMul, implies_true, Nat.reduceEqDiff, reduceIte, Nat.reduceAdd, Nat.reduceBEq, reduceCtorEq, ap22_22, bs22_0, fa26_0, ld22, ld26, ln22, q3.rd 0 rfl, q3.rd 1 rfl]
  refine two_intro (fun u1 => ?_) (fun u1 => ?_)
  ·
    try simp -implicitDefEqProofs only [kz, kk0, kk1, kk2, kk3, ↓two_true, ↓two_false, mkv, aggAt, Nat.reduceLeDiff, Nat.reduceSub, Nat.reduceMul, implies_true, Nat.reduceEqDiff, reduceIte, Nat.reduceAdd, Nat.reduceBEq, reduceCtorEq, ap22_22, bs22_0, fa26_0, ld22, ld26, ln22, q3.rd 0 rfl, q3.rd 1 rfl]
    refine st_lit [] rfl rfl q3 fun H4 q4 => ?_
    simp -implicitDefEqProofs only [kz, kk0, kk1, kk2, kk3, ↓two_true, ↓two_false, mkv, aggAt, Nat.reduceLeDiff, Nat.reduceSub, Nat.reduceMul, implies_true, Nat.reduceEqDiff, reduceIte, Nat.reduceAdd, Nat.reduceBEq, reduceCtorEq, ap22_22, bs22_0, fa26_0, ld22, ld26, ln22, q4.rd 1 rfl, q4.rd 2 rfl]
    -- end1
    exact q4.ansR 0 rfl (by simp [fitR, show arrOk sa da = false by simpa using u1])
  ·
    have v1 : arrOk sa da = true := by simpa using u1
    try simp -implicitDefEqProofs only [kz, kk0, kk1, kk2, kk3, ↓two_true, ↓two_false, mkv, aggAt, Nat.reduceLeDiff, Nat.reduceSub, Nat.reduceMul, implies_true, Nat.reduceEqDiff, reduceIte, Nat.reduceAdd, Nat.reduceBEq, reduceCtorEq, ap22_22, bs22_0, fa26_0, ld22, ld26, ln22, q3.rd 0 rfl, q3.rd 1 rfl]
    refine (specOk_ar (b.ext q3.ext)).mono ?_
    rintro _ H5 ⟨rfl, he2⟩
    have q5 := q3.extd he2
    simp -implicitDefEqProofs only [kz, kk0, kk1, kk2, kk3, ↓two_true, ↓two_false, mkv, aggAt, Nat.reduceLeDiff, Nat.reduceSub, Nat.reduceMul, implies_true, Nat.reduceEqDiff, reduceIte, Nat.reduceAdd, Nat.reduceBEq, reduceCtorEq, ap22_22, bs22_0, fa26_0, ld22, ld26, ln22, q5.rd 0 rfl, q5.rd 1 rfl]
    refine two_intro (fun u2 => ?_) (fun u2 => ?_)
    ·
      try simp -implicitDefEqProofs only [kz, kk0, kk1, kk2, kk3, ↓two_true, ↓two_false, mkv, aggAt, Nat.reduceLeDiff, Nat.reduceSub, Nat.reduceMul, implies_true, Nat.reduceEqDiff, reduceIte, Nat.reduceAdd, Nat.reduceBEq, reduceCtorEq, ap22_22, bs22_0, fa26_0, ld22, ld26, ln22, q5.rd 0 rfl, q5.rd 1 rfl]
      refine st_lit [] rfl rfl q5 fun H6 q6 => ?_
      simp -implicitDefEqProofs only [kz, kk0, kk1, kk2, kk3, ↓two_true, ↓two_false, mkv, aggAt, Nat.reduceLeDiff, Nat.reduceSub, Nat.reduceMul, implies_true, Nat.reduceEqDiff, reduceIte, Nat.reduceAdd, Nat.reduceBEq, reduceCtorEq, ap22_22, bs22_0, fa26_0, ld22, ld26, ln22, q6.rd 1 rfl, q6.rd 2 rfl]
      -- end2
      exact q6.ansR 0 rfl (by simp [fitR, show arrOk sb db = false by simpa using u2])
    ·
      have v2 : arrOk sb db = true := by simpa using u2
      try simp -implicitDefEqProofs only [kz, kk0, kk1, kk2, kk3, ↓two_true, ↓two_false, mkv, aggAt, Nat.reduceLeDiff, Nat.reduceSub, Nat.reduceMul, implies_true, Nat.reduceEqDiff, reduceIte, Nat.reduceAdd, Nat.reduceBEq, reduceCtorEq, ap22_22, bs22_0, fa26_0, ld22, ld26, ln22, q5.rd 0 rfl, q5.rd 1 rfl]
      refine two_intro (fun u3 => ?_) (fun u3 => ?_)
      ·
        have v3 : sa.length = 0 := by simpa using u3
        try simp -implicitDefEqProofs only [kz, kk0, kk1, kk2, kk3, ↓two_true, ↓two_false, mkv, aggAt, Nat.reduceLeDiff, Nat.reduceSub, Nat.reduceMul, implies_true, Nat.reduceEqDiff, reduceIte, Nat.reduceAdd, Nat.reduceBEq, reduceCtorEq, ap22_22, bs22_0, fa26_0, ld22, ld26, ln22, q5.rd 0 rfl, q5.rd 1 rfl]
        refine st_lit [] rfl rfl q5 fun H7 q7 => ?_
        simp -implicitDefEqProofs only [kz, kk0, kk1, kk2, kk3, ↓two_true, ↓two_false, mkv, aggAt, Nat.reduceLeDiff, Nat.reduceSub, Nat.reduceMul, implies_true, Nat.reduceEqDiff, reduceIte, Nat.reduceAdd, Nat.reduceBEq, reduceCtorEq, ap22_22, bs22_0, fa26_0, ld22, ld26, ln22, q7.rd 1 rfl, q7.rd 2 rfl]
        refine st_app q7 0 rfl (b.os.ext q7.ext) (by (try simp only [List.length_cons, List.length_nil, List.length_append, List.length_replicate, List.length_map, List.length_take, List.length_drop]); omega) fun a1 c1 H8 q8 => ?_
        simp only [List.set_cons_zero, List.set_cons_succ, List.length_nil, List.length_cons, Nat.zero_add, List.nil_append] at q8 ⊢
        simp -implicitDefEqProofs only [kz, kk0, kk1, kk2, kk3, ↓two_true, ↓two_false, mkv, aggAt, Nat.reduceLeDiff, Nat.reduceSub, Nat.reduceMul, implies_true, Nat.reduceEqDiff, reduceIte, Nat.reduceAdd, Nat.reduceBEq, reduceCtorEq, ap22_22, bs22_0, fa26_0, ld22, ld26, ln22, q8.rd 1 rfl, q8.rd 2 rfl]
        -- end3
        exact q8.ansR 0 rfl (by unfold fitR; rw [v1, v2]; simp only [Bool.and_self, if_true, v3])
      ·
        have v3 : sa.length ≠ 0 := by simpa using u3
        try simp -implicitDefEqProofs only [kz, kk0, kk1, kk2, kk3, ↓two_true, ↓two_false, mkv, aggAt, Nat.reduceLeDiff, Nat.reduceSub, Nat.reduceMul, implies_true, Nat.reduceEqDiff, reduceIte, Nat.reduceAdd, Nat.reduceBEq, reduceCtorEq, ap22_22, bs22_0, fa26_0, ld22, ld26, ln22, q5.rd 0 rfl, q5.rd 1 rfl]
        refine two_intro (fun u4 => ?_) (fun u4 => ?_)
        ·
          have v4 : sb.length = 0 := by simpa using u4
          try simp -implicitDefEqProofs only [kz, kk0, kk1, kk2, kk3, ↓two_true, ↓two_false, mkv, aggAt, Nat.reduceLeDiff, Nat.reduceSub, Nat.reduceMul, implies_true, Nat.reduceEqDiff, reduceIte, Nat.reduceAdd, Nat.reduceBEq, reduceCtorEq, ap22_22, bs22_0, fa26_0, ld22, ld26, ln22, q5.rd 0 rfl, q5.rd 1 rfl]
          refine st_lit [] rfl rfl q5 fun H9 q9 => ?_
          simp -implicitDefEqProofs only [kz, kk0, kk1, kk2, kk3, ↓two_true, ↓two_false, mkv, aggAt, Nat.reduceLeDiff, Nat.reduceSub, Nat.reduceMul, implies_true, Nat.reduceEqDiff, reduceIte, Nat.reduceAdd, Nat.reduceBEq, reduceCtorEq, ap22_22, bs22_0, fa26_0, ld22, ld26, ln22, q9.rd 1 rfl, q9.rd 2 rfl]
          refine st_app q9 0 rfl (a.os.ext q9.ext) (by (try simp only [List.length_cons, List.length_nil, List.length_append, List.length_replicate, List.length_map, List.length_take, List.length_drop]); omega) fun a2 c2 H10 q10 => ?_
          simp only [List.set_cons_zero, List.set_cons_succ, List.length_nil, List.length_cons, Nat.zero_add, List.nil_append] at q10 ⊢
          simp -implicitDefEqProofs only [kz, kk0, kk1, kk2, kk3, ↓two_true, ↓two_false, mkv, aggAt, Nat.reduceLeDiff, Nat.reduceSub, Nat.reduceMul, implies_true, Nat.reduceEqDiff, reduceIte, Nat.reduceAdd, Nat.reduceBEq, reduceCtorEq, ap22_22, bs22_0, fa26_0, ld22, ld26, ln22, q10.rd 1 rfl, q10.rd 2 rfl]
          -- end4
          exact q10.ansR 0 rfl (by unfold fitR; rw [v1, v2]; simp only [Bool.and_self, if_true]; rw [if_neg v3, if_pos v4])
        ·
          have v4 : sb.length ≠ 0 := by simpa using u4
          try simp -implicitDefEqProofs only [kz, kk0, kk1, kk2, kk3, ↓two_true, ↓two_false, mkv, aggAt, Nat.reduceLeDiff, Nat.reduceSub, Nat.reduceMul, implies_true, Nat.reduceEqDiff, reduceIte, Nat.reduceAdd, Nat.reduceBEq, reduceCtorEq, ap22_22, bs22_0, fa26_0, ld22, ld26, ln22, q5.rd 0 rfl, q5.rd 1 rfl]
          refine two_intro (fun u5 => ?_) (fun u5 => ?_)
          ·
            have v5 : sa.length ≠ sb.length := by simp at u5; omega
            try simp -implicitDefEqProofs only [kz, kk0, kk1, kk2, kk3, ↓two_true, ↓two_false, mkv, aggAt, Nat.reduceLeDiff, Nat.reduceSub, Nat.reduceMul, implies_true, Nat.reduceEqDiff, reduceIte, Nat.reduceAdd, Nat.reduceBEq, reduceCtorEq, ap22_22, bs22_0, fa26_0, ld22, ld26, ln22, q5.rd 0 rfl, q5.rd 1 rfl]
            refine st_lit [] rfl rfl q5 fun H11 q11 => ?_
            simp -implicitDefEqProofs only [kz, kk0, kk1, kk2, kk3, ↓two_true, ↓two_false, mkv, aggAt, Nat.reduceLeDiff, Nat.reduceSub, Nat.reduceMul, implies_true, Nat.reduceEqDiff, reduceIte, Nat.reduceAdd, Nat.reduceBEq, reduceCtorEq, ap22_22, bs22_0, fa26_0, ld22, ld26, ln22, q11.rd 1 rfl, q11.rd 2 rfl]
            -- end5
            exact q11.ansR 0 rfl (by unfold fitR; rw [v1, v2]; simp only [Bool.and_self, if_true]; rw [if_neg v3, if_neg v4, if_pos v5])
          ·
            have v5 : sa.length = sb.length := by simp at u5; omega
            have es1 := fun Φ => (l2Same_ok (a.os.ext q5.ext) (b.os.ext q5.ext) (by omega)).eq0 (Φ := Φ)
            try simp -implicitDefEqProofs only [kz, kk0, kk1, kk2, kk3, ↓two_true, ↓two_false, mkv, aggAt, Nat.reduceLeDiff, Nat.reduceSub, Nat.reduceMul, implies_true, Nat.reduceEqDiff, reduceIte, Nat.reduceAdd, Nat.reduceBEq, reduceCtorEq, ap22_22, bs22_0, fa26_0, ld22, ld26, ln22, es1, q5.rd 0 rfl, q5.rd 1 rfl]
            refine two_intro (fun u6 => ?_) (fun u6 => ?_)
            ·
              have v6 : (sa == sb) = false := by rw [Bool.not_eq_true'] at u6; exact u6
              try simp -implicitDefEqProofs only [kz, kk0, kk1, kk2, kk3, ↓two_true, ↓two_false, mkv, aggAt, Nat.reduceLeDiff, Nat.reduceSub, Nat.reduceMul, implies_true, Nat.reduceEqDiff, reduceIte, Nat.reduceAdd, Nat.reduceBEq, reduceCtorEq, ap22_22, bs22_0, fa26_0, ld22, ld26, ln22, es1, q5.rd 0 rfl, q5.rd 1 rfl]
              refine st_lit [] rfl rfl q5 fun H12 q12 => ?_
              simp -implicitDefEqProofs only [kz, kk0, kk1, kk2, kk3, ↓two_true, ↓two_false, mkv, aggAt, Nat.reduceLeDiff, Nat.reduceSub, Nat.reduceMul, implies_true, Nat.reduceEqDiff, reduceIte, Nat.reduceAdd, Nat.reduceBEq, reduceCtorEq, ap22_22, bs22_0, fa26_0, ld22, ld26, ln22, es1, q12.rd 1 rfl, q12.rd 2 rfl]
              -- end6
              exact q12.ansR 0 rfl (by unfold fitR; rw [v1, v2]; simp only [Bool.and_self, if_true]; rw [if_neg v3, if_neg v4, if_neg (by simpa using v5), if_neg (by rw [v6]; decide)])
            ·
              have v6 : (sa == sb) = true := by rw [Bool.not_eq_false'] at u6; exact u6
              try simp -implicitDefEqProofs only [kz, kk0, kk1, kk2, kk3, ↓two_true, ↓two_false, mkv, aggAt, Nat.reduceLeDiff, Nat.reduceSub, Nat.reduceMul, implies_true, Nat.reduceEqDiff, reduceIte, Nat.reduceAdd, Nat.reduceBEq, reduceCtorEq, ap22_22, bs22_0, fa26_0, ld22, ld26, ln22, es1, q5.rd 0 rfl, q5.rd 1 rfl]
              refine st_lit [] rfl rfl q5 fun H13 q13 => ?_
              simp -implicitDefEqProofs only [kz, kk0, kk1, kk2, kk3, ↓two_true, ↓two_false, mkv, aggAt, Nat.reduceLeDiff, Nat.reduceSub, Nat.reduceMul, implies_true, Nat.reduceEqDiff, reduceIte, Nat.reduceAdd, Nat.reduceBEq, reduceCtorEq, ap22_22, bs22_0, fa26_0, ld22, ld26, ln22, es1, q13.rd 1 rfl, q13.rd 2 rfl]
              refine st_app q13 0 rfl (a.os.ext q13.ext) (by (try simp only [List.length_cons, List.length_nil, List.length_append, List.length_replicate, List.length_map, List.length_take, List.length_drop]); omega) fun a3 c3 H14 q14 => ?_
              simp only [List.set_cons_zero, List.set_cons_succ, List.length_nil, List.length_cons, Nat.zero_add, List.nil_append] at q14 ⊢
              simp -implicitDefEqProofs only [kz, kk0, kk1, kk2, kk3, ↓two_true, ↓two_false, mkv, aggAt, Nat.reduceLeDiff, Nat.reduceSub, Nat.reduceMul, implies_true, Nat.reduceEqDiff, reduceIte, Nat.reduceAdd, Nat.reduceBEq, reduceCtorEq, ap22_22, bs22_0, fa26_0, ld22, ld26, ln22, es1, q14.rd 1 rfl, q14.rd 2 rfl]
              -- end7
              exact q14.ansR 0 rfl (by unfold fitR; rw [v1, v2]; simp only [Bool.and_self, if_true]; rw [if_neg v3, if_neg v4, if_neg (by simpa using v5), if_pos v6])

def atV (sa da : List Int) (i : Nat) : Int := if sa.length = 0 then da.getD 0 0 else da.getD i 0
def each2D (s : Int) (sa da sb db : List Int) (n : Nat) : List Int := (List.range n).map fun i => (twoF s (atV sa da i) (atV sb db i)).1
def each2C (s : Int) (sa da sb db : List Int) (n : Nat) : Int := firstC ((List.range n).map fun i => (twoF s (atV sa da i) (atV sb db i)).2)
def each2R (s : Int) (sa da sb db : List Int) : (List Int × List Int) × Int :=
  if (arrOk sa da && arrOk sb db && sg2 s) = true then
    (if (fitR sa da sb db).2 = 0 then (if each2C s sa da sb db (sizeI (fitR sa da sb db).1).toNat = 0 then (((fitR sa da sb db).1, each2D s sa da sb db (sizeI (fitR sa da sb db).1).toNat), 0) else (([], []), each2C s sa da sb db (sizeI (fitR sa da sb db).1).toNat)) else (([], []), (fitR sa da sb db).2))
  else (([], []), 1)
theorem fitR_cases {sa da sb db S : List Int} {C : Int} (h : fitR sa da sb db = (S, C)) : (arrOk sa da = true ∧ arrOk sb db = true ∧ C ≠ 1 ∧ (C = 0 → (sa.length = 0 ∧ S = sb ∨ S = sa) ∧ (sb.length = 0 ∧ S = sa ∨ S = sb))) ∨ ((arrOk sa da && arrOk sb db) = false ∧ C = 1 ∧ S = []) := by
  unfold fitR at h
  split at h
  · rename_i h1
    simp only [Bool.and_eq_true] at h1
    refine .inl ⟨h1.1, h1.2, ?_⟩
    split at h
    · rename_i h2; cases h; exact ⟨by decide, fun _ => ⟨.inl ⟨h2, rfl⟩, .inr rfl⟩⟩
    · split at h
      · rename_i h2 h3; cases h; exact ⟨by decide, fun _ => ⟨.inr rfl, .inl ⟨h3, rfl⟩⟩⟩
      · split at h
        · cases h; exact ⟨by decide, fun h => absurd h (by decide)⟩
        · split at h
          · rename_i h2; cases h; exact ⟨by decide, fun _ => ⟨.inr rfl, .inr (beq_iff_eq.1 h2)⟩⟩
          · cases h; exact ⟨by decide, fun h => absurd h (by decide)⟩
  · rename_i h1
    cases h
    exact .inr ⟨by simpa using h1, rfl, rfl⟩
theorem arrOk_size {sh dt : List Int} (h : arrOk sh dt = true) : sizeI sh = dt.length ∧ dt.length ≤ 300 := by
  have := arrOk_len h
  unfold arrOk at h
  simp only [Bool.and_eq_true, beq_iff_eq] at h
  exact ⟨h.1.symm, this⟩
theorem arrOk_nil {dt : List Int} (h : arrOk [] dt = true) : dt.length = 1 := by
  have h1 := (arrOk_size h).1
  have : sizeI [] = 1 := by decide
  omega
theorem fitR_ok {sa da sb db S : List Int} (h : fitR sa da sb db = (S, 0)) : arrOk sa da = true ∧ arrOk sb db = true ∧ ∃ n : Nat, sizeI S = n ∧ n ≤ 300 ∧ (0 < n → 0 < da.length ∧ 0 < db.length) ∧ (sa.length ≠ 0 → da.length = n) ∧ (sb.length ≠ 0 → db.length = n) ∧ S.length ≤ 3 := by
  rcases fitR_cases h with ⟨h1, h2, _, h3⟩ | ⟨_, h4, _⟩
  · obtain ⟨c1, c2⟩ := h3 rfl
    have e1 := arrOk_size h1
    have e2 := arrOk_size h2
    have n1 : ∀ {sh dt : List Int}, sh.length = 0 → arrOk sh dt = true → dt.length = 1 := fun h0 h => by
      rw [List.length_eq_zero_iff.1 h0] at h; exact arrOk_nil h
    have s3 : ∀ {sh dt : List Int}, arrOk sh dt = true → sh.length ≤ 3 := fun h => (sizeI_ok (by have := (arrOk_size h).1; omega)).1
    refine ⟨h1, h2, ?_⟩
    rcases c1 with ⟨a0, rfl⟩ | rfl
    · refine ⟨db.length, e2.1, e2.2, fun h => ⟨by have := n1 a0 h1; omega, h⟩, fun h => absurd a0 h, fun _ => rfl, s3 h2⟩
    · rcases c2 with ⟨b0, -⟩ | rfl
      · exact ⟨da.length, e1.1, e1.2, fun h => ⟨h, by have := n1 b0 h2; omega⟩, fun _ => rfl, fun h => absurd b0 h, s3 h1⟩
      · have : da.length = db.length := by have := e1.1; have := e2.1; omega
        exact ⟨da.length, e1.1, e1.2, fun h => ⟨h, by omega⟩, fun _ => rfl, fun _ => by omega, s3 h1⟩
  · exact absurd h4 (by decide)

theorem implAt_ok {H : AH} {pa qa : Value} {sa da : List Int} {i : Nat} (a : AR H pa qa sa da) (h0 : 0 < da.length) (h1 : sa.length ≠ 0 → i < da.length) : CallsA Try.prog 93 #[.agg #[pa, qa], .int .i64 i] H fun r H' => r = .int .i64 (atV sa da i) ∧ ∃ K, H' = H ++ K := by
  obtain ⟨za, zc, zb, zd, rfl, rfl⟩ := a.o1
  have q := (LX.nil (H := H))
  refine w93 ?_
  unfold k93
  simp -implicitDefEqProofs only [kz, kk0, kk1, kk2, kk3, ↓two_true, ↓two_false, mkv, aggAt, Nat.reduceLeDiff, Nat.reduceSub, Nat.reduceMul, implies_true, Nat.reduceEqDiff, reduceIte, Nat.reduceAdd, Nat.reduceBEq, reduceCtorEq, fa26_0, fa26_1, ix22, ld3, ld22, ln22]
  refine st_box q fun H1 q1 => ?_
  simp -implicitDefEqProofs only [kz, kk0, kk1, kk2, kk3, ↓two_true, ↓two_false, mkv, aggAt, Nat.reduceLeDiff, Nat.reduceSub, Nat.reduceMul, implies_true, Nat.reduceEqDiff, reduceIte, Nat.reduceAdd, Nat.reduceBEq, reduceCtorEq, fa26_0, fa26_1, ix22, ld3, ld22, ln22, q1.rd 0 rfl]
  refine two_intro (fun u1 => ?_) (fun u1 => ?_)
  ·
    have e : sa.length = 0 := by simpa using u1
    obtain ⟨b1, o1, cs1, ei1, fr1, fc1⟩ := ixI0 (a.od.ext q1.ext) (List.getElem?_eq_getElem h0)
    try simp -implicitDefEqProofs only [kz, kk0, kk1, kk2, kk3, ↓two_true, ↓two_false, mkv, aggAt, Nat.reduceLeDiff, Nat.reduceSub, Nat.reduceMul, implies_true, Nat.reduceEqDiff, reduceIte, Nat.reduceAdd, Nat.reduceBEq, reduceCtorEq, fa26_0, fa26_1, ix22, ld3, ld22, ln22, ei1, fr1, fc1, q1.rd 0 rfl]
    -- end1
    exact ⟨by unfold atV; rw [if_pos e]; simp [h0], q1.ext⟩
  ·
    have e : sa.length ≠ 0 := by simpa using u1
    have hc := h1 e
    obtain ⟨b2, o2, cs2, ei2, fr2, fc2⟩ := ixI (a.od.ext q1.ext) (i := i) hc
    try simp -implicitDefEqProofs only [kz, kk0, kk1, kk2, kk3, ↓two_true, ↓two_false, mkv, aggAt, Nat.reduceLeDiff, Nat.reduceSub, Nat.reduceMul, implies_true, Nat.reduceEqDiff, reduceIte, Nat.reduceAdd, Nat.reduceBEq, reduceCtorEq, fa26_0, fa26_1, ix22, ld3, ld22, ln22, ei2, fr2, fc2, q1.rd 0 rfl]
    -- end2
    exact ⟨by unfold atV; rw [if_neg e]; simp [hc], q1.ext⟩

theorem l4Of_ok {H : AH} {pa qa : Value} {sa da : List Int} {i : Nat} (a : AR H pa qa sa da) (h0 : 0 < da.length) (h1 : sa.length ≠ 0 → i < da.length) : CallsA Try.prog 211 #[.agg #[pa, qa], .int .i64 i] H fun r H' => r = .int .i64 (atV sa da i) ∧ ∃ K, H' = H ++ K := by
  obtain ⟨za, zc, zb, zd, rfl, rfl⟩ := a.o1
  have q := (LX.nil (H := H))
  refine w211 ?_
  unfold k211
  simp -implicitDefEqProofs only [kz, kk0, kk1, kk2, kk3, ↓two_true, ↓two_false, mkv, aggAt, Nat.reduceLeDiff, Nat.reduceSub, Nat.reduceMul, implies_true, Nat.reduceEqDiff, reduceIte, Nat.reduceAdd, Nat.reduceBEq, reduceCtorEq, fa26_0, fa26_1, ix22, ld3, ld22, ln22]
  refine st_box q fun H1 q1 => ?_
  simp -implicitDefEqProofs only [kz, kk0, kk1, kk2, kk3, ↓two_true, ↓two_false, mkv, aggAt, Nat.reduceLeDiff, Nat.reduceSub, Nat.reduceMul, implies_true, Nat.reduceEqDiff, reduceIte, Nat.reduceAdd, Nat.reduceBEq, reduceCtorEq, fa26_0, fa26_1, ix22, ld3, ld22, ln22, q1.rd 0 rfl]
  refine two_intro (fun u1 => ?_) (fun u1 => ?_)
  ·
    have e : sa.length = 0 := by simpa using u1
    obtain ⟨b1, o1, cs1, ei1, fr1, fc1⟩ := ixI0 (a.od.ext q1.ext) (List.getElem?_eq_getElem h0)
    try simp -implicitDefEqProofs only [kz, kk0, kk1, kk2, kk3, ↓two_true, ↓two_false, mkv, aggAt, Nat.reduceLeDiff, Nat.reduceSub, Nat.reduceMul, implies_true, Nat.reduceEqDiff, reduceIte, Nat.reduceAdd, Nat.reduceBEq, reduceCtorEq, fa26_0, fa26_1, ix22, ld3, ld22, ln22, ei1, fr1, fc1, q1.rd 0 rfl]
    -- end1
    exact ⟨by unfold atV; rw [if_pos e]; simp [h0], q1.ext⟩
  ·
    have e : sa.length ≠ 0 := by simpa using u1
    have hc := h1 e
    obtain ⟨b2, o2, cs2, ei2, fr2, fc2⟩ := ixI (a.od.ext q1.ext) (i := i) hc
    try simp -implicitDefEqProofs only [kz, kk0, kk1, kk2, kk3, ↓two_true, ↓two_false, mkv, aggAt, Nat.reduceLeDiff, Nat.reduceSub, Nat.reduceMul, implies_true, Nat.reduceEqDiff, reduceIte, Nat.reduceAdd, Nat.reduceBEq, reduceCtorEq, fa26_0, fa26_1, ix22, ld3, ld22, ln22, ei2, fr2, fc2, q1.rd 0 rfl]
    -- end2
    exact ⟨by unfold atV; rw [if_neg e]; simp [hc], q1.ext⟩

theorem each2D_step {s : Int} {sa da sb db : List Int} {i : Nat} : each2D s sa da sb db (i + 1) = each2D s sa da sb db i ++ [(twoF s (atV sa da i) (atV sb db i)).1] := by
  simp [each2D, List.range_succ]
theorem each2D_len {s : Int} {sa da sb db : List Int} {n : Nat} : (each2D s sa da sb db n).length = n := by simp [each2D]

theorem implTwo_eq {s a b : Int} {H : AH} {Φ : Value → AH → Prop} : CallsA Try.prog 92 #[.int .i64 s, .int .i64 a, .int .i64 b] H Φ = Φ (.tuple #[.int .i64 (twoF s a b).1, .int .i64 (twoF s a b).2]) H := (implTwo_ok s a b H).eq0

theorem specTwo_eq {s a b : Int} {H : AH} {Φ : Value → AH → Prop} : CallsA Try.prog 166 #[.int .i64 s, .int .i64 a, .int .i64 b] H Φ = Φ (.tuple #[.int .i64 (twoF s a b).1, .int .i64 (twoF s a b).2]) H := (specTwo_ok s a b H).eq0

theorem implEachTwo_ok {H : AH} {s : Int} {pa qa pb qb : Value} {sa da sb db : List Int} (a : AR H pa qa sa da) (b : AR H pb qb sb db) : CallsA Try.prog 32 #[.int .i64 s, .agg #[pa, qa], .agg #[pb, qb]] H fun r H' => Ans1 H H' r (each2R s sa da sb db) := by
  have al := a.l1
  have bl := a.l2
  have al2 := b.l1
  have bl2 := b.l2
  obtain ⟨za, zc, zb, zd, rfl, rfl⟩ := a.o1
  obtain ⟨ya, yc, yb, yd, rfl, rfl⟩ := b.o1
  have q := (LX.nil (H := H))
  refine w32 ?_
  unfold k32
  simp -implicitDefEqProofs only [kz, kk0, kk1, kk2, kk3, ↓two_true, ↓two_false, mkv, aggAt, Nat.reduceLeDiff, Nat.reduceSub, Nat.reduceMul, implies_true, Nat.reduceEqDiff, reduceIte, Nat.reduceAdd, Nat.reduceBEq, reduceCtorEq, al26, ap22_22, bd26, bs22_1, fa26_1, ld22, ld26, st22, st26, twoSign_eq, implTwo_eq]
  refine st_box q fun H1 q1 => ?_
  simp -implicitDefEqProofs only [kz, kk0, kk1, kk2, kk3, ↓two_true, ↓two_false, mkv, aggAt, Nat.reduceLeDiff, Nat.reduceSub, Nat.reduceMul, implies_true, Nat.reduceEqDiff, reduceIte, Nat.reduceAdd, Nat.reduceBEq, reduceCtorEq, al26, ap22_22, bd26, bs22_1, fa26_1, ld22, ld26, st22, st26, twoSign_eq, implTwo_eq, q1.rd 0 rfl]
  refine st_box q1 fun H2 q2 => ?_
  simp -implicitDefEqProofs only [kz, kk0, kk1, kk2, kk3, ↓two_true, ↓two_false, mkv, aggAt, Nat.reduceLeDiff, Nat.reduceSub, Nat.reduceMul, implies_true, Nat.reduceEqDiff, reduceIte, Nat.reduceAdd, Nat.reduceBEq, reduceCtorEq, al26, ap22_22, bd26, bs22_1, fa26_1, ld22, ld26, st22, st26, twoSign_eq, implTwo_eq, q2.rd 0 rfl, q2.rd 1 rfl]
  refine st_box q2 fun H3 q3 => ?_
  simp -implicitDefEqProofs only [kz, kk0, kk1, kk2, kk3, ↓two_true, ↓two_false, mkv, aggAt, Nat.reduceLeDiff, Nat.reduceSub, Nat.reduceMul, implies_true, Nat.reduceEqDiff, reduceIte, Nat.reduceAdd, Nat.reduceBEq, reduceCtorEq, al26, ap22_22, bd26, bs22_1, fa26_1, ld22, ld26, st22, st26, twoSign_eq, implTwo_eq, q3.rd 0 rfl, q3.rd 1 rfl, q3.rd 2 rfl]
  refine (implFit_ok (a.ext q3.ext) (b.ext q3.ext)).mono ?_
  rintro _ H4 ⟨p1, rfl, g1⟩
  have q4 := q3.join g1
  simp only [List.map_cons, List.map_nil, List.cons_append, List.nil_append] at q4
  obtain ⟨a1, c1, rfl⟩ := (q4.own 0 rfl).isSlice
  obtain ⟨S, C, hF⟩ : ∃ S C, fitR sa da sb db = (S, C) := ⟨_, _, rfl⟩
  rw [hF] at q4 ⊢
  simp only at q4 ⊢
  simp -implicitDefEqProofs only [kz, kk0, kk1, kk2, kk3, ↓two_true, ↓two_false, mkv, aggAt, Nat.reduceLeDiff, Nat.reduceSub, Nat.reduceMul, implies_true, Nat.reduceEqDiff, reduceIte, Nat.reduceAdd, Nat.reduceBEq, reduceCtorEq, al26, ap22_22, bd26, bs22_1, fa26_1, ld22, ld26, st22, st26, twoSign_eq, implTwo_eq, q4.rd 1 rfl, q4.rd 2 rfl, q4.rd 3 rfl]
  refine two_intro (fun u1 => ?_) (fun u1 => ?_)
  ·
    have hC : C = 1 := by simpa using u1
    try simp -implicitDefEqProofs only [kz, kk0, kk1, kk2, kk3, ↓two_true, ↓two_false, mkv, aggAt, Nat.reduceLeDiff, Nat.reduceSub, Nat.reduceMul, implies_true, Nat.reduceEqDiff, reduceIte, Nat.reduceAdd, Nat.reduceBEq, reduceCtorEq, al26, ap22_22, bd26, bs22_1, fa26_1, ld22, ld26, st22, st26, twoSign_eq, implTwo_eq, q4.rd 1 rfl, q4.rd 2 rfl, q4.rd 3 rfl]
    refine st_set q4 1 rfl fun H5 q5 => ?_
    simp only [List.set_cons_zero, List.set_cons_succ] at q5
    simp -implicitDefEqProofs only [kz, kk0, kk1, kk2, kk3, ↓two_true, ↓two_false, mkv, aggAt, Nat.reduceLeDiff, Nat.reduceSub, Nat.reduceMul, implies_true, Nat.reduceEqDiff, reduceIte, Nat.reduceAdd, Nat.reduceBEq, reduceCtorEq, al26, ap22_22, bd26, bs22_1, fa26_1, ld22, ld26, st22, st26, twoSign_eq, implTwo_eq, q5.rd 1 rfl, q5.rd 2 rfl, q5.rd 3 rfl]
    -- end1
    refine q5.err ?_
    unfold each2R; rw [show (arrOk sa da && arrOk sb db) = false by
      rcases fitR_cases hF with ⟨_, _, h, _⟩ | ⟨h, _⟩
      · exact absurd hC h
      · exact h]; rfl
  ·
    have hC : C ≠ 1 := by simpa using u1
    have hok : (arrOk sa da && arrOk sb db) = true := by
      rcases fitR_cases hF with ⟨h1, h2, _⟩ | ⟨_, h, _⟩
      · rw [h1, h2]; rfl
      · exact absurd h hC
    try simp -implicitDefEqProofs only [kz, kk0, kk1, kk2, kk3, ↓two_true, ↓two_false, mkv, aggAt, Nat.reduceLeDiff, Nat.reduceSub, Nat.reduceMul, implies_true, Nat.reduceEqDiff, reduceIte, Nat.reduceAdd, Nat.reduceBEq, reduceCtorEq, al26, ap22_22, bd26, bs22_1, fa26_1, ld22, ld26, st22, st26, twoSign_eq, implTwo_eq, q4.rd 1 rfl, q4.rd 2 rfl, q4.rd 3 rfl]
    refine two_intro (fun u2 => ?_) (fun u2 => ?_)
    ·
      try simp -implicitDefEqProofs only [kz, kk0, kk1, kk2, kk3, ↓two_true, ↓two_false, mkv, aggAt, Nat.reduceLeDiff, Nat.reduceSub, Nat.reduceMul, implies_true, Nat.reduceEqDiff, reduceIte, Nat.reduceAdd, Nat.reduceBEq, reduceCtorEq, al26, ap22_22, bd26, bs22_1, fa26_1, ld22, ld26, st22, st26, twoSign_eq, implTwo_eq, q4.rd 1 rfl, q4.rd 2 rfl, q4.rd 3 rfl]
      refine st_set q4 1 rfl fun H6 q6 => ?_
      simp only [List.set_cons_zero, List.set_cons_succ] at q6
      simp -implicitDefEqProofs only [kz, kk0, kk1, kk2, kk3, ↓two_true, ↓two_false, mkv, aggAt, Nat.reduceLeDiff, Nat.reduceSub, Nat.reduceMul, implies_true, Nat.reduceEqDiff, reduceIte, Nat.reduceAdd, Nat.reduceBEq, reduceCtorEq, al26, ap22_22, bd26, bs22_1, fa26_1, ld22, ld26, st22, st26, twoSign_eq, implTwo_eq, q6.rd 1 rfl, q6.rd 2 rfl, q6.rd 3 rfl]
      -- end2
      exact q6.err (by unfold each2R; rw [show sg2 s = false by simpa using u2, Bool.and_false]; rfl)
    ·
      have v3 : sg2 s = true := by simpa using u2
      try simp -implicitDefEqProofs only [kz, kk0, kk1, kk2, kk3, ↓two_true, ↓two_false, mkv, aggAt, Nat.reduceLeDiff, Nat.reduceSub, Nat.reduceMul, implies_true, Nat.reduceEqDiff, reduceIte, Nat.reduceAdd, Nat.reduceBEq, reduceCtorEq, al26, ap22_22, bd26, bs22_1, fa26_1, ld22, ld26, st22, st26, twoSign_eq, implTwo_eq, q4.rd 1 rfl, q4.rd 2 rfl, q4.rd 3 rfl]
      refine two_intro (fun u3 => ?_) (fun u3 => ?_)
      ·
        have hC0 : C ≠ 0 := by simpa using u3
        try simp -implicitDefEqProofs only [kz, kk0, kk1, kk2, kk3, ↓two_true, ↓two_false, mkv, aggAt, Nat.reduceLeDiff, Nat.reduceSub, Nat.reduceMul, implies_true, Nat.reduceEqDiff, reduceIte, Nat.reduceAdd, Nat.reduceBEq, reduceCtorEq, al26, ap22_22, bd26, bs22_1, fa26_1, ld22, ld26, st22, st26, twoSign_eq, implTwo_eq, q4.rd 1 rfl, q4.rd 2 rfl, q4.rd 3 rfl]
        refine st_set q4 1 rfl fun H7 q7 => ?_
        simp only [List.set_cons_zero, List.set_cons_succ] at q7
        simp -implicitDefEqProofs only [kz, kk0, kk1, kk2, kk3, ↓two_true, ↓two_false, mkv, aggAt, Nat.reduceLeDiff, Nat.reduceSub, Nat.reduceMul, implies_true, Nat.reduceEqDiff, reduceIte, Nat.reduceAdd, Nat.reduceBEq, reduceCtorEq, al26, ap22_22, bd26, bs22_1, fa26_1, ld22, ld26, st22, st26, twoSign_eq, implTwo_eq, q7.rd 1 rfl, q7.rd 2 rfl, q7.rd 3 rfl]
        -- end3
        exact q7.err (by unfold each2R; rw [hok, v3, hF]; exact if_neg hC0)
      ·
        have hC0 : C = 0 := by simpa using u3
        subst hC0
        obtain ⟨v1, v2, n, hsz, hn3, hpos, hna, hnb, hS3⟩ := fitR_ok hF
        try simp -implicitDefEqProofs only [kz, kk0, kk1, kk2, kk3, ↓two_true, ↓two_false, mkv, aggAt, Nat.reduceLeDiff, Nat.reduceSub, Nat.reduceMul, implies_true, Nat.reduceEqDiff, reduceIte, Nat.reduceAdd, Nat.reduceBEq, reduceCtorEq, al26, ap22_22, bd26, bs22_1, fa26_1, ld22, ld26, st22, st26, twoSign_eq, implTwo_eq, q4.rd 1 rfl, q4.rd 2 rfl, q4.rd 3 rfl]
        try simp -implicitDefEqProofs only [kz, kk0, kk1, kk2, kk3, ↓two_true, ↓two_false, mkv, aggAt, Nat.reduceLeDiff, Nat.reduceSub, Nat.reduceMul, implies_true, Nat.reduceEqDiff, reduceIte, Nat.reduceAdd, Nat.reduceBEq, reduceCtorEq, al26, ap22_22, bd26, bs22_1, fa26_1, ld22, ld26, st22, st26, twoSign_eq, implTwo_eq, q4.rd 1 rfl, q4.rd 2 rfl, q4.rd 3 rfl]
        refine st_box q4 fun H8 q8 => ?_
        simp -implicitDefEqProofs only [kz, kk0, kk1, kk2, kk3, ↓two_true, ↓two_false, mkv, aggAt, Nat.reduceLeDiff, Nat.reduceSub, Nat.reduceMul, implies_true, Nat.reduceEqDiff, reduceIte, Nat.reduceAdd, Nat.reduceBEq, reduceCtorEq, al26, ap22_22, bd26, bs22_1, fa26_1, ld22, ld26, st22, st26, twoSign_eq, implTwo_eq, q8.rd 0 rfl, q8.rd 2 rfl, q8.rd 3 rfl, q8.rd 4 rfl]
        refine st_set q8 0 rfl fun H9 q9 => ?_
        simp only [List.set_cons_zero, List.set_cons_succ] at q9
        simp -implicitDefEqProofs only [kz, kk0, kk1, kk2, kk3, ↓two_true, ↓two_false, mkv, aggAt, Nat.reduceLeDiff, Nat.reduceSub, Nat.reduceMul, implies_true, Nat.reduceEqDiff, reduceIte, Nat.reduceAdd, Nat.reduceBEq, reduceCtorEq, al26, ap22_22, bd26, bs22_1, fa26_1, ld22, ld26, st22, st26, twoSign_eq, implTwo_eq, q9.rd 0 rfl, q9.rd 2 rfl, q9.rd 3 rfl, q9.rd 4 rfl]
        have q10 := q9.nil0
        refine rW_loopQ (σ := Nat × Option Addr × Nat) q10 [0, 4, 5, 6, 8, 10] (fun x tm => tm 11 = .int .i64 x.1 ∧ x.1 ≤ n ∧ ∀ k ∈ (List.range n).take x.1, (twoF s (atV sa da k) (atV sb db k)).2 = 0) (fun x L => (L.set 1 (.own (.box H4.length [.slice a1 S.length c1, .slice x.2.1 (each2D s sa da sb db x.1).length x.2.2]))).set 0 (.own (.row (.slice x.2.1 (each2D s sa da sb db x.1).length x.2.2) (each2D s sa da sb db x.1)))) (fun x => n - x.1) (0, none, 0) ⟨rfl, Nat.zero_le _, fun y hy => by simp at hy⟩ rfl ?_
        rintro ⟨i, av, cv⟩ tm1 H10 ⟨h1, h2, h3, h4, h5, h6, -⟩ ⟨ki, hi, hz⟩ q11
        simp -implicitDefEqProofs only [kz, kk0, kk1, kk2, kk3, ↓two_true, ↓two_false, mkv, aggAt, Nat.reduceLeDiff, Nat.reduceSub, Nat.reduceMul, implies_true, Nat.reduceEqDiff, reduceIte, Nat.reduceAdd, Nat.reduceBEq, reduceCtorEq, al26, ap22_22, bd26, bs22_1, fa26_1, ld22, ld26, st22, st26] at h1 h2 h3 h4 h5 h6
        simp only [List.set_cons_zero, List.set_cons_succ] at q11
        simp only at ki hi hz
        have wi := IntWalk.i64_in ((i : Int) + 1) (by omega)
        have es1 := fun Φ => (implSizeOf_ok (q11.int 2 rfl) (by omega)).eq0 (Φ := Φ)
        simp -implicitDefEqProofs only [kz, kk0, kk1, kk2, kk3, ↓two_true, ↓two_false, mkv, aggAt, Nat.reduceLeDiff, Nat.reduceSub, Nat.reduceMul, implies_true, Nat.reduceEqDiff, reduceIte, Nat.reduceAdd, Nat.reduceBEq, reduceCtorEq, al26, ap22_22, bd26, bs22_1, fa26_1, ld22, ld26, st22, st26, twoSign_eq, implTwo_eq, es1, h1, h2, h3, h4, h5, h6, ki, wi, hsz, q11.rd 1 rfl, q11.rd 3 rfl, q11.rd 4 rfl, q11.rd 5 rfl]
        refine two_intro (fun u4 => ?_) (fun u4 => ?_)
        ·
          have hc : i < n := by simpa using u4
          have hp := hpos (by omega)
          have hlen : (each2D s sa da sb db i).length ≤ 300 := by rw [each2D_len]; omega
          try simp -implicitDefEqProofs only [kz, kk0, kk1, kk2, kk3, ↓two_true, ↓two_false, mkv, aggAt, Nat.reduceLeDiff, Nat.reduceSub, Nat.reduceMul, implies_true, Nat.reduceEqDiff, reduceIte, Nat.reduceAdd, Nat.reduceBEq, reduceCtorEq, al26, ap22_22, bd26, bs22_1, fa26_1, ld22, ld26, st22, st26, twoSign_eq, implTwo_eq, es1, h1, h2, h3, h4, h5, h6, ki, wi, hsz, q11.rd 1 rfl, q11.rd 3 rfl, q11.rd 4 rfl, q11.rd 5 rfl]
          refine (implAt_ok (a.ext q11.ext) hp.1 (fun e => by have := hna e; omega)).mono ?_
          rintro _ H11 ⟨rfl, he1⟩
          have q12 := q11.extd he1
          simp -implicitDefEqProofs only [kz, kk0, kk1, kk2, kk3, ↓two_true, ↓two_false, mkv, aggAt, Nat.reduceLeDiff, Nat.reduceSub, Nat.reduceMul, implies_true, Nat.reduceEqDiff, reduceIte, Nat.reduceAdd, Nat.reduceBEq, reduceCtorEq, al26, ap22_22, bd26, bs22_1, fa26_1, ld22, ld26, st22, st26, twoSign_eq, implTwo_eq, es1, h1, h2, h3, h4, h5, h6, ki, wi, hsz, q12.rd 1 rfl, q12.rd 3 rfl, q12.rd 4 rfl, q12.rd 5 rfl, q11.rd 1 rfl, q11.rd 3 rfl, q11.rd 4 rfl, q11.rd 5 rfl]
          refine (implAt_ok (b.ext q12.ext) hp.2 (fun e => by have := hnb e; omega)).mono ?_
          rintro _ H12 ⟨rfl, he2⟩
          have q13 := q12.extd he2
          simp -implicitDefEqProofs only [kz, kk0, kk1, kk2, kk3, ↓two_true, ↓two_false, mkv, aggAt, Nat.reduceLeDiff, Nat.reduceSub, Nat.reduceMul, implies_true, Nat.reduceEqDiff, reduceIte, Nat.reduceAdd, Nat.reduceBEq, reduceCtorEq, al26, ap22_22, bd26, bs22_1, fa26_1, ld22, ld26, st22, st26, twoSign_eq, implTwo_eq, es1, h1, h2, h3, h4, h5, h6, ki, wi, hsz, q13.rd 1 rfl, q13.rd 3 rfl, q13.rd 4 rfl, q13.rd 5 rfl, q11.rd 1 rfl, q11.rd 3 rfl, q11.rd 4 rfl, q11.rd 5 rfl, q12.rd 1 rfl, q12.rd 3 rfl, q12.rd 4 rfl, q12.rd 5 rfl]
          try simp -implicitDefEqProofs only [kz, kk0, kk1, kk2, kk3, ↓two_true, ↓two_false, mkv, aggAt, Nat.reduceLeDiff, Nat.reduceSub, Nat.reduceMul, implies_true, Nat.reduceEqDiff, reduceIte, Nat.reduceAdd, Nat.reduceBEq, reduceCtorEq, al26, ap22_22, bd26, bs22_1, fa26_1, ld22, ld26, st22, st26, twoSign_eq, implTwo_eq, es1, h1, h2, h3, h4, h5, h6, ki, wi, hsz, q13.rd 1 rfl, q13.rd 3 rfl, q13.rd 4 rfl, q13.rd 5 rfl]
          refine two_intro (fun u5 => ?_) (fun u5 => ?_)
          ·
            have hne : (twoF s (atV sa da i) (atV sb db i)).2 ≠ 0 := by simpa using u5
            have hfl : each2C s sa da sb db n = (twoF s (atV sa da i) (atV sb db i)).2 := by
              unfold each2C
              have := firstC_at (l := List.range n) (f := fun i => (twoF s (atV sa da i) (atV sb db i)).2) (i := i) (by simpa using hc) hz (by simpa using hne)
              rw [this, List.getElem_range]
            try simp -implicitDefEqProofs only [kz, kk0, kk1, kk2, kk3, ↓two_true, ↓two_false, mkv, aggAt, Nat.reduceLeDiff, Nat.reduceSub, Nat.reduceMul, implies_true, Nat.reduceEqDiff, reduceIte, Nat.reduceAdd, Nat.reduceBEq, reduceCtorEq, al26, ap22_22, bd26, bs22_1, fa26_1, ld22, ld26, st22, st26, twoSign_eq, implTwo_eq, es1, h1, h2, h3, h4, h5, h6, ki, wi, hsz, q13.rd 1 rfl, q13.rd 3 rfl, q13.rd 4 rfl, q13.rd 5 rfl]
            refine st_set q13 3 rfl fun H13 q14 => ?_
            simp only [List.set_cons_zero, List.set_cons_succ] at q14
            simp -implicitDefEqProofs only [kz, kk0, kk1, kk2, kk3, ↓two_true, ↓two_false, mkv, aggAt, Nat.reduceLeDiff, Nat.reduceSub, Nat.reduceMul, implies_true, Nat.reduceEqDiff, reduceIte, Nat.reduceAdd, Nat.reduceBEq, reduceCtorEq, al26, ap22_22, bd26, bs22_1, fa26_1, ld22, ld26, st22, st26, twoSign_eq, implTwo_eq, es1, h1, h2, h3, h4, h5, h6, ki, wi, hsz, q14.rd 1 rfl, q14.rd 3 rfl, q14.rd 4 rfl, q14.rd 5 rfl]
            -- end4
            exact q14.err (by unfold each2R; rw [v1, v2, v3, hF]; simp only [Bool.and_self, if_true, hsz, Int.toNat_natCast, hfl]; exact if_neg hne)
          ·
            have hz1 : (twoF s (atV sa da i) (atV sb db i)).2 = 0 := by simpa using u5
            try simp -implicitDefEqProofs only [kz, kk0, kk1, kk2, kk3, ↓two_true, ↓two_false, mkv, aggAt, Nat.reduceLeDiff, Nat.reduceSub, Nat.reduceMul, implies_true, Nat.reduceEqDiff, reduceIte, Nat.reduceAdd, Nat.reduceBEq, reduceCtorEq, al26, ap22_22, bd26, bs22_1, fa26_1, ld22, ld26, st22, st26, twoSign_eq, implTwo_eq, es1, h1, h2, h3, h4, h5, h6, ki, wi, hsz, q13.rd 1 rfl, q13.rd 3 rfl, q13.rd 4 rfl, q13.rd 5 rfl]
            refine st_lit [_] rfl rfl q13 fun H14 q15 => ?_
            simp -implicitDefEqProofs only [kz, kk0, kk1, kk2, kk3, ↓two_true, ↓two_false, mkv, aggAt, Nat.reduceLeDiff, Nat.reduceSub, Nat.reduceMul, implies_true, Nat.reduceEqDiff, reduceIte, Nat.reduceAdd, Nat.reduceBEq, reduceCtorEq, al26, ap22_22, bd26, bs22_1, fa26_1, ld22, ld26, st22, st26, twoSign_eq, implTwo_eq, es1, h1, h2, h3, h4, h5, h6, ki, wi, hsz, q15.rd 2 rfl, q15.rd 4 rfl, q15.rd 5 rfl, q15.rd 6 rfl]
            refine st_app q15 1 rfl (q15.int 0 rfl) (by (try simp only [List.length_cons, List.length_nil, List.length_append, List.length_replicate, List.length_map, List.length_take, List.length_drop]); omega) fun a2 c2 H15 q16 => ?_
            simp only [List.set_cons_zero, List.set_cons_succ, List.length_nil, List.length_cons, Nat.zero_add, List.nil_append] at q16 ⊢
            simp -implicitDefEqProofs only [kz, kk0, kk1, kk2, kk3, ↓two_true, ↓two_false, mkv, aggAt, Nat.reduceLeDiff, Nat.reduceSub, Nat.reduceMul, implies_true, Nat.reduceEqDiff, reduceIte, Nat.reduceAdd, Nat.reduceBEq, reduceCtorEq, al26, ap22_22, bd26, bs22_1, fa26_1, ld22, ld26, st22, st26, twoSign_eq, implTwo_eq, es1, h1, h2, h3, h4, h5, h6, ki, wi, hsz, q16.rd 2 rfl, q16.rd 4 rfl, q16.rd 5 rfl, q16.rd 6 rfl]
            refine st_set q16 2 rfl fun H16 q17 => ?_
            simp only [List.set_cons_zero, List.set_cons_succ] at q17
            simp -implicitDefEqProofs only [kz, kk0, kk1, kk2, kk3, ↓two_true, ↓two_false, mkv, aggAt, Nat.reduceLeDiff, Nat.reduceSub, Nat.reduceMul, implies_true, Nat.reduceEqDiff, reduceIte, Nat.reduceAdd, Nat.reduceBEq, reduceCtorEq, al26, ap22_22, bd26, bs22_1, fa26_1, ld22, ld26, st22, st26, twoSign_eq, implTwo_eq, es1, h1, h2, h3, h4, h5, h6, ki, wi, hsz, q17.rd 2 rfl, q17.rd 4 rfl, q17.rd 5 rfl, q17.rd 6 rfl]
            -- back loop1
            refine ⟨(i + 1, a2, c2), (by simp only; omega), ⟨rfl, rfl, rfl, rfl, rfl, rfl, trivial⟩, ⟨by first | rfl | simp, hc, fun k hk => by
              rcases mem_take_succ (l := List.range n) (by simpa using hc) hk with h | h
              · exact hz k h
              · rw [h, List.getElem_range]; exact hz1⟩, ?_⟩
            simp only [List.set_cons_zero, List.set_cons_succ, each2D_step, List.length_append, List.length_cons, List.length_nil, Nat.zero_add]
            exact q17.pick [1, 2, 3, 4, 5, 6] _ rfl (by decide)
        ·
          have hil : i = n := Nat.le_antisymm hi (Nat.not_lt.1 (by simpa using u4))
          subst hil
          rw [List.take_of_length_le (by simp)] at hz
          try simp -implicitDefEqProofs only [kz, kk0, kk1, kk2, kk3, ↓two_true, ↓two_false, mkv, aggAt, Nat.reduceLeDiff, Nat.reduceSub, Nat.reduceMul, implies_true, Nat.reduceEqDiff, reduceIte, Nat.reduceAdd, Nat.reduceBEq, reduceCtorEq, al26, ap22_22, bd26, bs22_1, fa26_1, ld22, ld26, st22, st26, twoSign_eq, implTwo_eq, es1, h1, h2, h3, h4, h5, h6, ki, wi, hsz, q11.rd 1 rfl, q11.rd 3 rfl, q11.rd 4 rfl, q11.rd 5 rfl]
          refine st_set q11 3 rfl fun H17 q18 => ?_
          simp only [List.set_cons_zero, List.set_cons_succ] at q18
          simp -implicitDefEqProofs only [kz, kk0, kk1, kk2, kk3, ↓two_true, ↓two_false, mkv, aggAt, Nat.reduceLeDiff, Nat.reduceSub, Nat.reduceMul, implies_true, Nat.reduceEqDiff, reduceIte, Nat.reduceAdd, Nat.reduceBEq, reduceCtorEq, al26, ap22_22, bd26, bs22_1, fa26_1, ld22, ld26, st22, st26, twoSign_eq, implTwo_eq, es1, h1, h2, h3, h4, h5, h6, ki, wi, hsz, q18.rd 1 rfl, q18.rd 3 rfl, q18.rd 4 rfl, q18.rd 5 rfl]
          -- end5
          exact q18.ans 2 0 (by decide) rfl rfl (by unfold each2R; rw [v1, v2, v3, hF]; simp only [Bool.and_self, if_true, hsz, Int.toNat_natCast]; exact if_pos (by unfold each2C; exact firstC_no hz))

theorem specEachTwo_ok {H : AH} {s : Int} {pa qa pb qb : Value} {sa da sb db : List Int} (a : AR H pa qa sa da) (b : AR H pb qb sb db) : CallsA Try.prog 151 #[.int .i64 s, .agg #[pa, qa], .agg #[pb, qb]] H fun r H' => Ans1 H H' r (each2R s sa da sb db) := by
  have al := a.l1
  have bl := a.l2
  have al2 := b.l1
  have bl2 := b.l2
  obtain ⟨za, zc, zb, zd, rfl, rfl⟩ := a.o1
  obtain ⟨ya, yc, yb, yd, rfl, rfl⟩ := b.o1
  have q := (LX.nil (H := H))
  refine w151 ?_
  unfold k151
  simp -implicitDefEqProofs only [kz, kk0, kk1, kk2, kk3, ↓two_true, ↓two_false, mkv, aggAt, Nat.reduceLeDiff, Nat.reduceSub, Nat.reduceMul, implies_true, Nat.reduceEqDiff, reduceIte, Nat.reduceAdd, Nat.reduceBEq, reduceCtorEq, al26, ap22_22, bd26, bs22_1, fa26_1, ld22, ld26, st22, st26, l1Sign2_eq, specTwo_eq]
  refine st_box q fun H1 q1 => ?_
  simp -implicitDefEqProofs only [kz, kk0, kk1, kk2, kk3, ↓two_true, ↓two_false, mkv, aggAt, Nat.reduceLeDiff, Nat.reduceSub, Nat.reduceMul, implies_true, Nat.reduceEqDiff, reduceIte, Nat.reduceAdd, Nat.reduceBEq, reduceCtorEq, al26, ap22_22, bd26, bs22_1, fa26_1, ld22, ld26, st22, st26, l1Sign2_eq, specTwo_eq, q1.rd 0 rfl]
  refine st_box q1 fun H2 q2 => ?_
  simp -implicitDefEqProofs only [kz, kk0, kk1, kk2, kk3, ↓two_true, ↓two_false, mkv, aggAt, Nat.reduceLeDiff, Nat.reduceSub, Nat.reduceMul, implies_true, Nat.reduceEqDiff, reduceIte, Nat.reduceAdd, Nat.reduceBEq, reduceCtorEq, al26, ap22_22, bd26, bs22_1, fa26_1, ld22, ld26, st22, st26, l1Sign2_eq, specTwo_eq, q2.rd 0 rfl, q2.rd 1 rfl]
  refine st_box q2 fun H3 q3 => ?_
  simp -implicitDefEqProofs only [kz, kk0, kk1, kk2, kk3, ↓two_true, ↓two_false, mkv, aggAt, Nat.reduceLeDiff, Nat.reduceSub, Nat.reduceMul, implies_true, Nat.reduceEqDiff, reduceIte, Nat.reduceAdd, Nat.reduceBEq, reduceCtorEq, al26, ap22_22, bd26, bs22_1, fa26_1, ld22, ld26, st22, st26, l1Sign2_eq, specTwo_eq, q3.rd 0 rfl, q3.rd 1 rfl, q3.rd 2 rfl]
  refine (specOk_ar (a.ext q3.ext)).mono ?_
  rintro _ H4 ⟨rfl, he1⟩
  have q4 := q3.extd he1
  simp -implicitDefEqProofs only [kz, kk0, kk1, kk2, kk3, ↓two_true, ↓two_false, mkv, aggAt, Nat.reduceLeDiff, Nat.reduceSub, Nat.reduceMul, implies_true, Nat.reduceEqDiff, reduceIte, Nat.reduceAdd, Nat.reduceBEq, reduceCtorEq, al26, ap22_22, bd26, bs22_1, fa26_1, ld22, ld26, st22, st26, l1Sign2_eq, specTwo_eq, q4.rd 0 rfl, q4.rd 1 rfl, q4.rd 2 rfl]
  refine two_intro (fun u1 => ?_) (fun u1 => ?_)
  ·
    try simp -implicitDefEqProofs only [kz, kk0, kk1, kk2, kk3, ↓two_true, ↓two_false, mkv, aggAt, Nat.reduceLeDiff, Nat.reduceSub, Nat.reduceMul, implies_true, Nat.reduceEqDiff, reduceIte, Nat.reduceAdd, Nat.reduceBEq, reduceCtorEq, al26, ap22_22, bd26, bs22_1, fa26_1, ld22, ld26, st22, st26, l1Sign2_eq, specTwo_eq, q4.rd 0 rfl, q4.rd 1 rfl, q4.rd 2 rfl]
    refine st_set q4 0 rfl fun H5 q5 => ?_
    simp only [List.set_cons_zero, List.set_cons_succ] at q5
    simp -implicitDefEqProofs only [kz, kk0, kk1, kk2, kk3, ↓two_true, ↓two_false, mkv, aggAt, Nat.reduceLeDiff, Nat.reduceSub, Nat.reduceMul, implies_true, Nat.reduceEqDiff, reduceIte, Nat.reduceAdd, Nat.reduceBEq, reduceCtorEq, al26, ap22_22, bd26, bs22_1, fa26_1, ld22, ld26, st22, st26, l1Sign2_eq, specTwo_eq, q5.rd 0 rfl, q5.rd 1 rfl, q5.rd 2 rfl]
    -- end1
    exact q5.err (by simp [each2R, show arrOk sa da = false by simpa using u1])
  ·
    have v1 : arrOk sa da = true := by simpa using u1
    try simp -implicitDefEqProofs only [kz, kk0, kk1, kk2, kk3, ↓two_true, ↓two_false, mkv, aggAt, Nat.reduceLeDiff, Nat.reduceSub, Nat.reduceMul, implies_true, Nat.reduceEqDiff, reduceIte, Nat.reduceAdd, Nat.reduceBEq, reduceCtorEq, al26, ap22_22, bd26, bs22_1, fa26_1, ld22, ld26, st22, st26, l1Sign2_eq, specTwo_eq, q4.rd 0 rfl, q4.rd 1 rfl, q4.rd 2 rfl]
    refine (specOk_ar (b.ext q4.ext)).mono ?_
    rintro _ H6 ⟨rfl, he2⟩
    have q6 := q4.extd he2
    simp -implicitDefEqProofs only [kz, kk0, kk1, kk2, kk3, ↓two_true, ↓two_false, mkv, aggAt, Nat.reduceLeDiff, Nat.reduceSub, Nat.reduceMul, implies_true, Nat.reduceEqDiff, reduceIte, Nat.reduceAdd, Nat.reduceBEq, reduceCtorEq, al26, ap22_22, bd26, bs22_1, fa26_1, ld22, ld26, st22, st26, l1Sign2_eq, specTwo_eq, q6.rd 0 rfl, q6.rd 1 rfl, q6.rd 2 rfl]
    refine two_intro (fun u2 => ?_) (fun u2 => ?_)
    ·
      try simp -implicitDefEqProofs only [kz, kk0, kk1, kk2, kk3, ↓two_true, ↓two_false, mkv, aggAt, Nat.reduceLeDiff, Nat.reduceSub, Nat.reduceMul, implies_true, Nat.reduceEqDiff, reduceIte, Nat.reduceAdd, Nat.reduceBEq, reduceCtorEq, al26, ap22_22, bd26, bs22_1, fa26_1, ld22, ld26, st22, st26, l1Sign2_eq, specTwo_eq, q6.rd 0 rfl, q6.rd 1 rfl, q6.rd 2 rfl]
      refine st_set q6 0 rfl fun H7 q7 => ?_
      simp only [List.set_cons_zero, List.set_cons_succ] at q7
      simp -implicitDefEqProofs only [kz, kk0, kk1, kk2, kk3, ↓two_true, ↓two_false, mkv, aggAt, Nat.reduceLeDiff, Nat.reduceSub, Nat.reduceMul, implies_true, Nat.reduceEqDiff, reduceIte, Nat.reduceAdd, Nat.reduceBEq, reduceCtorEq, al26, ap22_22, bd26, bs22_1, fa26_1, ld22, ld26, st22, st26, l1Sign2_eq, specTwo_eq, q7.rd 0 rfl, q7.rd 1 rfl, q7.rd 2 rfl]
      -- end2
      exact q7.err (by simp [each2R, show arrOk sb db = false by simpa using u2])
    ·
      have v2 : arrOk sb db = true := by simpa using u2
      try simp -implicitDefEqProofs only [kz, kk0, kk1, kk2, kk3, ↓two_true, ↓two_false, mkv, aggAt, Nat.reduceLeDiff, Nat.reduceSub, Nat.reduceMul, implies_true, Nat.reduceEqDiff, reduceIte, Nat.reduceAdd, Nat.reduceBEq, reduceCtorEq, al26, ap22_22, bd26, bs22_1, fa26_1, ld22, ld26, st22, st26, l1Sign2_eq, specTwo_eq, q6.rd 0 rfl, q6.rd 1 rfl, q6.rd 2 rfl]
      refine two_intro (fun u3 => ?_) (fun u3 => ?_)
      ·
        try simp -implicitDefEqProofs only [kz, kk0, kk1, kk2, kk3, ↓two_true, ↓two_false, mkv, aggAt, Nat.reduceLeDiff, Nat.reduceSub, Nat.reduceMul, implies_true, Nat.reduceEqDiff, reduceIte, Nat.reduceAdd, Nat.reduceBEq, reduceCtorEq, al26, ap22_22, bd26, bs22_1, fa26_1, ld22, ld26, st22, st26, l1Sign2_eq, specTwo_eq, q6.rd 0 rfl, q6.rd 1 rfl, q6.rd 2 rfl]
        refine st_set q6 0 rfl fun H8 q8 => ?_
        simp only [List.set_cons_zero, List.set_cons_succ] at q8
        simp -implicitDefEqProofs only [kz, kk0, kk1, kk2, kk3, ↓two_true, ↓two_false, mkv, aggAt, Nat.reduceLeDiff, Nat.reduceSub, Nat.reduceMul, implies_true, Nat.reduceEqDiff, reduceIte, Nat.reduceAdd, Nat.reduceBEq, reduceCtorEq, al26, ap22_22, bd26, bs22_1, fa26_1, ld22, ld26, st22, st26, l1Sign2_eq, specTwo_eq, q8.rd 0 rfl, q8.rd 1 rfl, q8.rd 2 rfl]
        -- end3
        exact q8.err (by simp [each2R, show sg2 s = false by simpa using u3])
      ·
        have v3 : sg2 s = true := by simpa using u3
        try simp -implicitDefEqProofs only [kz, kk0, kk1, kk2, kk3, ↓two_true, ↓two_false, mkv, aggAt, Nat.reduceLeDiff, Nat.reduceSub, Nat.reduceMul, implies_true, Nat.reduceEqDiff, reduceIte, Nat.reduceAdd, Nat.reduceBEq, reduceCtorEq, al26, ap22_22, bd26, bs22_1, fa26_1, ld22, ld26, st22, st26, l1Sign2_eq, specTwo_eq, q6.rd 0 rfl, q6.rd 1 rfl, q6.rd 2 rfl]
        refine (specFit_ok (a.ext q6.ext) (b.ext q6.ext)).mono ?_
        rintro _ H9 ⟨p1, rfl, g1⟩
        have q9 := q6.join g1
        simp only [List.map_cons, List.map_nil, List.cons_append, List.nil_append] at q9
        obtain ⟨a1, c1, rfl⟩ := (q9.own 0 rfl).isSlice
        obtain ⟨S, C, hF⟩ : ∃ S C, fitR sa da sb db = (S, C) := ⟨_, _, rfl⟩
        rw [hF] at q9 ⊢
        simp only at q9 ⊢
        simp -implicitDefEqProofs only [kz, kk0, kk1, kk2, kk3, ↓two_true, ↓two_false, mkv, aggAt, Nat.reduceLeDiff, Nat.reduceSub, Nat.reduceMul, implies_true, Nat.reduceEqDiff, reduceIte, Nat.reduceAdd, Nat.reduceBEq, reduceCtorEq, al26, ap22_22, bd26, bs22_1, fa26_1, ld22, ld26, st22, st26, l1Sign2_eq, specTwo_eq, q9.rd 1 rfl, q9.rd 2 rfl, q9.rd 3 rfl]
        refine two_intro (fun u4 => ?_) (fun u4 => ?_)
        ·
          have hC0 : C ≠ 0 := by simpa using u4
          try simp -implicitDefEqProofs only [kz, kk0, kk1, kk2, kk3, ↓two_true, ↓two_false, mkv, aggAt, Nat.reduceLeDiff, Nat.reduceSub, Nat.reduceMul, implies_true, Nat.reduceEqDiff, reduceIte, Nat.reduceAdd, Nat.reduceBEq, reduceCtorEq, al26, ap22_22, bd26, bs22_1, fa26_1, ld22, ld26, st22, st26, l1Sign2_eq, specTwo_eq, q9.rd 1 rfl, q9.rd 2 rfl, q9.rd 3 rfl]
          refine st_set q9 1 rfl fun H10 q10 => ?_
          simp only [List.set_cons_zero, List.set_cons_succ] at q10
          simp -implicitDefEqProofs only [kz, kk0, kk1, kk2, kk3, ↓two_true, ↓two_false, mkv, aggAt, Nat.reduceLeDiff, Nat.reduceSub, Nat.reduceMul, implies_true, Nat.reduceEqDiff, reduceIte, Nat.reduceAdd, Nat.reduceBEq, reduceCtorEq, al26, ap22_22, bd26, bs22_1, fa26_1, ld22, ld26, st22, st26, l1Sign2_eq, specTwo_eq, q10.rd 1 rfl, q10.rd 2 rfl, q10.rd 3 rfl]
          -- end4
          exact q10.err (by unfold each2R; rw [v1, v2, v3, hF]; exact if_neg hC0)
        ·
          have hC0 : C = 0 := by simpa using u4
          subst hC0
          obtain ⟨-, -, n, hsz, hn3, hpos, hna, hnb, hS3⟩ := fitR_ok hF
          try simp -implicitDefEqProofs only [kz, kk0, kk1, kk2, kk3, ↓two_true, ↓two_false, mkv, aggAt, Nat.reduceLeDiff, Nat.reduceSub, Nat.reduceMul, implies_true, Nat.reduceEqDiff, reduceIte, Nat.reduceAdd, Nat.reduceBEq, reduceCtorEq, al26, ap22_22, bd26, bs22_1, fa26_1, ld22, ld26, st22, st26, l1Sign2_eq, specTwo_eq, q9.rd 1 rfl, q9.rd 2 rfl, q9.rd 3 rfl]
          try simp -implicitDefEqProofs only [kz, kk0, kk1, kk2, kk3, ↓two_true, ↓two_false, mkv, aggAt, Nat.reduceLeDiff, Nat.reduceSub, Nat.reduceMul, implies_true, Nat.reduceEqDiff, reduceIte, Nat.reduceAdd, Nat.reduceBEq, reduceCtorEq, al26, ap22_22, bd26, bs22_1, fa26_1, ld22, ld26, st22, st26, l1Sign2_eq, specTwo_eq, q9.rd 1 rfl, q9.rd 2 rfl, q9.rd 3 rfl]
          refine st_box q9 fun H11 q11 => ?_
          simp -implicitDefEqProofs only [kz, kk0, kk1, kk2, kk3, ↓two_true, ↓two_false, mkv, aggAt, Nat.reduceLeDiff, Nat.reduceSub, Nat.reduceMul, implies_true, Nat.reduceEqDiff, reduceIte, Nat.reduceAdd, Nat.reduceBEq, reduceCtorEq, al26, ap22_22, bd26, bs22_1, fa26_1, ld22, ld26, st22, st26, l1Sign2_eq, specTwo_eq, q11.rd 0 rfl, q11.rd 2 rfl, q11.rd 3 rfl, q11.rd 4 rfl]
          refine st_set q11 0 rfl fun H12 q12 => ?_
          simp only [List.set_cons_zero, List.set_cons_succ] at q12
          simp -implicitDefEqProofs only [kz, kk0, kk1, kk2, kk3, ↓two_true, ↓two_false, mkv, aggAt, Nat.reduceLeDiff, Nat.reduceSub, Nat.reduceMul, implies_true, Nat.reduceEqDiff, reduceIte, Nat.reduceAdd, Nat.reduceBEq, reduceCtorEq, al26, ap22_22, bd26, bs22_1, fa26_1, ld22, ld26, st22, st26, l1Sign2_eq, specTwo_eq, q12.rd 0 rfl, q12.rd 2 rfl, q12.rd 3 rfl, q12.rd 4 rfl]
          have q13 := q12.nil0
          refine rW_loopQ (σ := Nat × Option Addr × Nat) q13 [0, 4, 5, 6, 8, 10] (fun x tm => tm 11 = .int .i64 x.1 ∧ x.1 ≤ n ∧ ∀ k ∈ (List.range n).take x.1, (twoF s (atV sa da k) (atV sb db k)).2 = 0) (fun x L => (L.set 1 (.own (.box H9.length [.slice a1 S.length c1, .slice x.2.1 (each2D s sa da sb db x.1).length x.2.2]))).set 0 (.own (.row (.slice x.2.1 (each2D s sa da sb db x.1).length x.2.2) (each2D s sa da sb db x.1)))) (fun x => n - x.1) (0, none, 0) ⟨rfl, Nat.zero_le _, fun y hy => by simp at hy⟩ rfl ?_
          rintro ⟨i, av, cv⟩ tm1 H13 ⟨h1, h2, h3, h4, h5, h6, -⟩ ⟨ki, hi, hz⟩ q14
          simp -implicitDefEqProofs only [kz, kk0, kk1, kk2, kk3, ↓two_true, ↓two_false, mkv, aggAt, Nat.reduceLeDiff, Nat.reduceSub, Nat.reduceMul, implies_true, Nat.reduceEqDiff, reduceIte, Nat.reduceAdd, Nat.reduceBEq, reduceCtorEq, al26, ap22_22, bd26, bs22_1, fa26_1, ld22, ld26, st22, st26] at h1 h2 h3 h4 h5 h6
          simp only [List.set_cons_zero, List.set_cons_succ] at q14
          simp only at ki hi hz
          have wi := IntWalk.i64_in ((i : Int) + 1) (by omega)
          have es1 := fun Φ => (specSizeOf_ok (q14.int 2 rfl) (by omega)).eq0 (Φ := Φ)
          simp -implicitDefEqProofs only [kz, kk0, kk1, kk2, kk3, ↓two_true, ↓two_false, mkv, aggAt, Nat.reduceLeDiff, Nat.reduceSub, Nat.reduceMul, implies_true, Nat.reduceEqDiff, reduceIte, Nat.reduceAdd, Nat.reduceBEq, reduceCtorEq, al26, ap22_22, bd26, bs22_1, fa26_1, ld22, ld26, st22, st26, l1Sign2_eq, specTwo_eq, es1, h1, h2, h3, h4, h5, h6, ki, wi, hsz, q14.rd 1 rfl, q14.rd 3 rfl, q14.rd 4 rfl, q14.rd 5 rfl]
          refine two_intro (fun u5 => ?_) (fun u5 => ?_)
          ·
            have hc : i < n := by simpa using u5
            have hp := hpos (by omega)
            have hlen : (each2D s sa da sb db i).length ≤ 300 := by rw [each2D_len]; omega
            try simp -implicitDefEqProofs only [kz, kk0, kk1, kk2, kk3, ↓two_true, ↓two_false, mkv, aggAt, Nat.reduceLeDiff, Nat.reduceSub, Nat.reduceMul, implies_true, Nat.reduceEqDiff, reduceIte, Nat.reduceAdd, Nat.reduceBEq, reduceCtorEq, al26, ap22_22, bd26, bs22_1, fa26_1, ld22, ld26, st22, st26, l1Sign2_eq, specTwo_eq, es1, h1, h2, h3, h4, h5, h6, ki, wi, hsz, q14.rd 1 rfl, q14.rd 3 rfl, q14.rd 4 rfl, q14.rd 5 rfl]
            refine (l4Of_ok (a.ext q14.ext) hp.1 (fun e => by have := hna e; omega)).mono ?_
            rintro _ H14 ⟨rfl, he3⟩
            have q15 := q14.extd he3
            simp -implicitDefEqProofs only [kz, kk0, kk1, kk2, kk3, ↓two_true, ↓two_false, mkv, aggAt, Nat.reduceLeDiff, Nat.reduceSub, Nat.reduceMul, implies_true, Nat.reduceEqDiff, reduceIte, Nat.reduceAdd, Nat.reduceBEq, reduceCtorEq, al26, ap22_22, bd26, bs22_1, fa26_1, ld22, ld26, st22, st26, l1Sign2_eq, specTwo_eq, es1, h1, h2, h3, h4, h5, h6, ki, wi, hsz, q15.rd 1 rfl, q15.rd 3 rfl, q15.rd 4 rfl, q15.rd 5 rfl, q14.rd 1 rfl, q14.rd 3 rfl, q14.rd 4 rfl, q14.rd 5 rfl]
            refine (l4Of_ok (b.ext q15.ext) hp.2 (fun e => by have := hnb e; omega)).mono ?_
            rintro _ H15 ⟨rfl, he4⟩
            have q16 := q15.extd he4
            simp -implicitDefEqProofs only [kz, kk0, kk1, kk2, kk3, ↓two_true, ↓two_false, mkv, aggAt, Nat.reduceLeDiff, Nat.reduceSub, Nat.reduceMul, implies_true, Nat.reduceEqDiff, reduceIte, Nat.reduceAdd, Nat.reduceBEq, reduceCtorEq, al26, ap22_22, bd26, bs22_1, fa26_1, ld22, ld26, st22, st26, l1Sign2_eq, specTwo_eq, es1, h1, h2, h3, h4, h5, h6, ki, wi, hsz, q16.rd 1 rfl, q16.rd 3 rfl, q16.rd 4 rfl, q16.rd 5 rfl, q14.rd 1 rfl, q14.rd 3 rfl, q14.rd 4 rfl, q14.rd 5 rfl, q15.rd 1 rfl, q15.rd 3 rfl, q15.rd 4 rfl, q15.rd 5 rfl]
            try simp -implicitDefEqProofs only [kz, kk0, kk1, kk2, kk3, ↓two_true, ↓two_false, mkv, aggAt, Nat.reduceLeDiff, Nat.reduceSub, Nat.reduceMul, implies_true, Nat.reduceEqDiff, reduceIte, Nat.reduceAdd, Nat.reduceBEq, reduceCtorEq, al26, ap22_22, bd26, bs22_1, fa26_1, ld22, ld26, st22, st26, l1Sign2_eq, specTwo_eq, es1, h1, h2, h3, h4, h5, h6, ki, wi, hsz, q16.rd 1 rfl, q16.rd 3 rfl, q16.rd 4 rfl, q16.rd 5 rfl]
            refine two_intro (fun u6 => ?_) (fun u6 => ?_)
            ·
              have hne : (twoF s (atV sa da i) (atV sb db i)).2 ≠ 0 := by simpa using u6
              have hfl : each2C s sa da sb db n = (twoF s (atV sa da i) (atV sb db i)).2 := by
                unfold each2C
                have := firstC_at (l := List.range n) (f := fun i => (twoF s (atV sa da i) (atV sb db i)).2) (i := i) (by simpa using hc) hz (by simpa using hne)
                rw [this, List.getElem_range]
              try simp -implicitDefEqProofs only [kz, kk0, kk1, kk2, kk3, ↓two_true, ↓two_false, mkv, aggAt, Nat.reduceLeDiff, Nat.reduceSub, Nat.reduceMul, implies_true, Nat.reduceEqDiff, reduceIte, Nat.reduceAdd, Nat.reduceBEq, reduceCtorEq, al26, ap22_22, bd26, bs22_1, fa26_1, ld22, ld26, st22, st26, l1Sign2_eq, specTwo_eq, es1, h1, h2, h3, h4, h5, h6, ki, wi, hsz, q16.rd 1 rfl, q16.rd 3 rfl, q16.rd 4 rfl, q16.rd 5 rfl]
              refine st_set q16 3 rfl fun H16 q17 => ?_
              simp only [List.set_cons_zero, List.set_cons_succ] at q17
              simp -implicitDefEqProofs only [kz, kk0, kk1, kk2, kk3, ↓two_true, ↓two_false, mkv, aggAt, Nat.reduceLeDiff, Nat.reduceSub, Nat.reduceMul, implies_true, Nat.reduceEqDiff, reduceIte, Nat.reduceAdd, Nat.reduceBEq, reduceCtorEq, al26, ap22_22, bd26, bs22_1, fa26_1, ld22, ld26, st22, st26, l1Sign2_eq, specTwo_eq, es1, h1, h2, h3, h4, h5, h6, ki, wi, hsz, q17.rd 1 rfl, q17.rd 3 rfl, q17.rd 4 rfl, q17.rd 5 rfl]
              -- end5
              exact q17.err (by unfold each2R; rw [v1, v2, v3, hF]; simp only [Bool.and_self, if_true, hsz, Int.toNat_natCast, hfl]; exact if_neg hne)
            ·
              have hz1 : (twoF s (atV sa da i) (atV sb db i)).2 = 0 := by simpa using u6
              try simp -implicitDefEqProofs only [kz, kk0, kk1, kk2, kk3, ↓two_true, ↓two_false, mkv, aggAt, Nat.reduceLeDiff, Nat.reduceSub, Nat.reduceMul, implies_true, Nat.reduceEqDiff, reduceIte, Nat.reduceAdd, Nat.reduceBEq, reduceCtorEq, al26, ap22_22, bd26, bs22_1, fa26_1, ld22, ld26, st22, st26, l1Sign2_eq, specTwo_eq, es1, h1, h2, h3, h4, h5, h6, ki, wi, hsz, q16.rd 1 rfl, q16.rd 3 rfl, q16.rd 4 rfl, q16.rd 5 rfl]
              refine st_lit [_] rfl rfl q16 fun H17 q18 => ?_
              simp -implicitDefEqProofs only [kz, kk0, kk1, kk2, kk3, ↓two_true, ↓two_false, mkv, aggAt, Nat.reduceLeDiff, Nat.reduceSub, Nat.reduceMul, implies_true, Nat.reduceEqDiff, reduceIte, Nat.reduceAdd, Nat.reduceBEq, reduceCtorEq, al26, ap22_22, bd26, bs22_1, fa26_1, ld22, ld26, st22, st26, l1Sign2_eq, specTwo_eq, es1, h1, h2, h3, h4, h5, h6, ki, wi, hsz, q18.rd 2 rfl, q18.rd 4 rfl, q18.rd 5 rfl, q18.rd 6 rfl]
              refine st_app q18 1 rfl (q18.int 0 rfl) (by (try simp only [List.length_cons, List.length_nil, List.length_append, List.length_replicate, List.length_map, List.length_take, List.length_drop]); omega) fun a2 c2 H18 q19 => ?_
              simp only [List.set_cons_zero, List.set_cons_succ, List.length_nil, List.length_cons, Nat.zero_add, List.nil_append] at q19 ⊢
              simp -implicitDefEqProofs only [kz, kk0, kk1, kk2, kk3, ↓two_true, ↓two_false, mkv, aggAt, Nat.reduceLeDiff, Nat.reduceSub, Nat.reduceMul, implies_true, Nat.reduceEqDiff, reduceIte, Nat.reduceAdd, Nat.reduceBEq, reduceCtorEq, al26, ap22_22, bd26, bs22_1, fa26_1, ld22, ld26, st22, st26, l1Sign2_eq, specTwo_eq, es1, h1, h2, h3, h4, h5, h6, ki, wi, hsz, q19.rd 2 rfl, q19.rd 4 rfl, q19.rd 5 rfl, q19.rd 6 rfl]
              refine st_set q19 2 rfl fun H19 q20 => ?_
              simp only [List.set_cons_zero, List.set_cons_succ] at q20
              simp -implicitDefEqProofs only [kz, kk0, kk1, kk2, kk3, ↓two_true, ↓two_false, mkv, aggAt, Nat.reduceLeDiff, Nat.reduceSub, Nat.reduceMul, implies_true, Nat.reduceEqDiff, reduceIte, Nat.reduceAdd, Nat.reduceBEq, reduceCtorEq, al26, ap22_22, bd26, bs22_1, fa26_1, ld22, ld26, st22, st26, l1Sign2_eq, specTwo_eq, es1, h1, h2, h3, h4, h5, h6, ki, wi, hsz, q20.rd 2 rfl, q20.rd 4 rfl, q20.rd 5 rfl, q20.rd 6 rfl]
              -- back loop1
              refine ⟨(i + 1, a2, c2), (by simp only; omega), ⟨rfl, rfl, rfl, rfl, rfl, rfl, trivial⟩, ⟨by first | rfl | simp, hc, fun k hk => by
                rcases mem_take_succ (l := List.range n) (by simpa using hc) hk with h | h
                · exact hz k h
                · rw [h, List.getElem_range]; exact hz1⟩, ?_⟩
              simp only [List.set_cons_zero, List.set_cons_succ, each2D_step, List.length_append, List.length_cons, List.length_nil, Nat.zero_add]
              exact q20.pick [1, 2, 3, 4, 5, 6] _ rfl (by decide)
          ·
            have hil : i = n := Nat.le_antisymm hi (Nat.not_lt.1 (by simpa using u5))
            subst hil
            rw [List.take_of_length_le (by simp)] at hz
            try simp -implicitDefEqProofs only [kz, kk0, kk1, kk2, kk3, ↓two_true, ↓two_false, mkv, aggAt, Nat.reduceLeDiff, Nat.reduceSub, Nat.reduceMul, implies_true, Nat.reduceEqDiff, reduceIte, Nat.reduceAdd, Nat.reduceBEq, reduceCtorEq, al26, ap22_22, bd26, bs22_1, fa26_1, ld22, ld26, st22, st26, l1Sign2_eq, specTwo_eq, es1, h1, h2, h3, h4, h5, h6, ki, wi, hsz, q14.rd 1 rfl, q14.rd 3 rfl, q14.rd 4 rfl, q14.rd 5 rfl]
            refine st_set q14 3 rfl fun H20 q21 => ?_
            simp only [List.set_cons_zero, List.set_cons_succ] at q21
            simp -implicitDefEqProofs only [kz, kk0, kk1, kk2, kk3, ↓two_true, ↓two_false, mkv, aggAt, Nat.reduceLeDiff, Nat.reduceSub, Nat.reduceMul, implies_true, Nat.reduceEqDiff, reduceIte, Nat.reduceAdd, Nat.reduceBEq, reduceCtorEq, al26, ap22_22, bd26, bs22_1, fa26_1, ld22, ld26, st22, st26, l1Sign2_eq, specTwo_eq, es1, h1, h2, h3, h4, h5, h6, ki, wi, hsz, q21.rd 1 rfl, q21.rd 3 rfl, q21.rd 4 rfl, q21.rd 5 rfl]
            -- end6
            exact q21.ans 2 0 (by decide) rfl rfl (by unfold each2R; rw [v1, v2, v3, hF]; simp only [Bool.and_self, if_true, hsz, Int.toNat_natCast]; exact if_pos (by unfold each2C; exact firstC_no hz))

def neuF (s : Int) : Int × Bool := if s = 43 ∨ s = 45 ∨ s = 124 ∨ s = 60 ∨ s = 62 then (0, true) else if s = 42 ∨ s = 37 ∨ s = 61 then (1, true) else if s = 38 then (1000000000000, true) else if s = 94 then (-1000000000000, true) else (0, false)
theorem neuF_num {s : Int} : numOk (neuF s).1 = true := by
  unfold neuF
  repeat' split
  all_goals decide

theorem implNeutral_ok (s : Int) (H : AH) : CallsA Try.prog 165 #[.int .i64 s] H fun r H' => r = .tuple #[.int .i64 (neuF s).1, .bool (neuF s).2] ∧ H' = H := by
  refine w165 ?_
  unfold k165 neuF
  simp -implicitDefEqProofs only [kz, kk0, kk1, kk2, kk3, ↓two_true, ↓two_false, oS_some, oM_some, mkv, aggAt, Nat.reduceLeDiff, Nat.reduceSub, Nat.reduceMul, implies_true, Nat.reduceEqDiff, reduceIte, Nat.reduceAdd, Nat.reduceBEq, reduceCtorEq]
  simp +contextual [two]
theorem implNeutral_eq {s : Int} {H : AH} {Φ : Value → AH → Prop} : CallsA Try.prog 165 #[.int .i64 s] H Φ = Φ (.tuple #[.int .i64 (neuF s).1, .bool (neuF s).2]) H := (implNeutral_ok s H).eq0

theorem specNeutral_ok (s : Int) (H : AH) : CallsA Try.prog 163 #[.int .i64 s] H fun r H' => r = .tuple #[.int .i64 (neuF s).1, .bool (neuF s).2] ∧ H' = H := by
  refine w163 ?_
  unfold k163 neuF
  simp -implicitDefEqProofs only [kz, kk0, kk1, kk2, kk3, ↓two_true, ↓two_false, oS_some, oM_some, mkv, aggAt, Nat.reduceLeDiff, Nat.reduceSub, Nat.reduceMul, implies_true, Nat.reduceEqDiff, reduceIte, Nat.reduceAdd, Nat.reduceBEq, reduceCtorEq]
  simp +contextual [two]
theorem specNeutral_eq {s : Int} {H : AH} {Φ : Value → AH → Prop} : CallsA Try.prog 163 #[.int .i64 s] H Φ = Φ (.tuple #[.int .i64 (neuF s).1, .bool (neuF s).2]) H := (specNeutral_ok s H).eq0

theorem twoF_num {s a b : Int} : numOk (twoF s a b).1 = true := by
  unfold twoF
  repeat' split
  all_goals first | decide | assumption
def redS (s : Int) (r : List Int × List Int) (acc : (List Int × List Int) × Int) : (List Int × List Int) × Int := if acc.2 = 0 then each2R s r.1 r.2 acc.1.1 acc.1.2 else acc
def redL (s : Int) : List (List Int × List Int) → (List Int × List Int) × Int
  | [] => (([], []), 0)
  | [r] => (r, 0)
  | r :: r2 :: rs => redS s r (redL s (r2 :: rs))
def redR (s : Int) (rs : List (List Int × List Int)) (sh : List Int) : (List Int × List Int) × Int := if rs.length = 0 then ((sh, List.replicate (sizeI sh).toNat (neuF s).1), 0) else redL s rs
theorem redL_drop {s : Int} {rs : List (List Int × List Int)} {k : Nat} (h : k + 1 < rs.length) : redL s (rs.drop k) = redS s (rs[k]'(by omega)) (redL s (rs.drop (k + 1))) := by
  have e1 : rs.drop k = rs[k]'(by omega) :: rs[k + 1] :: rs.drop (k + 2) := by
    rw [List.drop_eq_getElem_cons (by omega), List.drop_eq_getElem_cons h]
  have e2 : rs.drop (k + 1) = rs[k + 1] :: rs.drop (k + 2) := List.drop_eq_getElem_cons h
  rw [e1, e2]; rfl
theorem redL_last {s : Int} {rs : List (List Int × List Int)} (h : 0 < rs.length) : redL s (rs.drop (rs.length - 1)) = (rs[rs.length - 1]'(by omega), 0) := by
  have e1 : rs.drop (rs.length - 1) = [rs[rs.length - 1]'(by omega)] := by
    rw [List.drop_eq_getElem_cons (by omega), List.drop_eq_nil_of_le (by omega)]
  rw [e1]; rfl
theorem redL_err {s : Int} {rs : List (List Int × List Int)} {k : Nat} (hk : k < rs.length) (h : (redL s (rs.drop k)).2 ≠ 0) : redL s rs = redL s (rs.drop k) := by
  induction k with
  | zero => simp
  | succ k ih =>
    have e := redL_drop (s := s) hk
    unfold redS at e
    rw [if_neg h] at e
    rw [← e] at h ⊢
    exact ih (by omega) h
theorem each2R_err {s : Int} {sa da sb db : List Int} (h : (each2R s sa da sb db).2 ≠ 0) : (each2R s sa da sb db).1 = ([], []) := by
  unfold each2R at h ⊢
  repeat' split
  all_goals first | rfl | skip
  rename_i h1 h2 h3
  rw [if_pos h1, if_pos h2, if_pos h3] at h
  exact absurd rfl h
theorem each2R_ok {s : Int} {sa da sb db : List Int} {R : (List Int × List Int) × Int} (h : each2R s sa da sb db = R) (h0 : R.2 = 0) : arrOk sa da = true ∧ arrOk sb db = true ∧ sg2 s = true ∧ arrOk R.1.1 R.1.2 = true ∧ R.1.1.length ≤ 3 ∧ R.1.2.length ≤ 300 ∧ fitR sa da sb db = (R.1.1, 0) ∧ R.1.2 = each2D s sa da sb db R.1.2.length := by
  unfold each2R at h
  split at h
  · rename_i h1
    simp only [Bool.and_eq_true] at h1
    split at h
    · rename_i h2
      split at h
      · obtain ⟨S, C, hF⟩ : ∃ S C, fitR sa da sb db = (S, C) := ⟨_, _, rfl⟩
        rw [hF] at h h2
        simp only at h2
        subst h2
        obtain ⟨_, _, n, hn, hn3, _, _, _, hS⟩ := fitR_ok hF
        subst h
        simp only [hn, Int.toNat_natCast, each2D_len]
        refine ⟨h1.1.1, h1.1.2, h1.2, ?_, hS, hn3, hF, trivial⟩
        unfold arrOk
        simp only [hn, each2D_len, beq_self_eq_true, Bool.true_and]
        refine List.all_eq_true.2 fun y hy => ?_
        unfold each2D at hy
        obtain ⟨i, _, rfl⟩ := List.mem_map.1 hy
        exact twoF_num
      · rename_i h3; subst h; exact absurd h0 h3
    · rename_i h2; subst h; exact absurd h0 h2
  · subst h; exact absurd h0 (by decide)
theorem each2R_lim {s : Int} {sa da sb db : List Int} {R : (List Int × List Int) × Int} (h : each2R s sa da sb db = R) : R.1.1.length ≤ 300 ∧ R.1.2.length ≤ 300 := by
  by_cases h0 : R.2 = 0
  · obtain ⟨_, _, _, _, h1, h2, _⟩ := each2R_ok h h0
    omega
  · subst h
    rw [each2R_err h0]; simp

theorem arrOk_neu {s : Int} {sh : List Int} (h : 0 ≤ sizeI sh) : arrOk sh (List.replicate (sizeI sh).toNat (neuF s).1) = true := by
  unfold arrOk
  simp only [List.length_replicate, Bool.and_eq_true, beq_iff_eq]
  refine ⟨by omega, List.all_eq_true.2 fun y hy => ?_⟩
  rw [List.eq_of_mem_replicate hy]; exact neuF_num

theorem implReduced_ok {H : AH} {s : Int} {v w : Value} {rs : List (List Int × List Int)} {sh : List Int} (r : RowsA H v rs) (h : IntRow H w sh) (l1 : rs.length ≤ 1048576) (l2 : sh.length ≤ 1048575) (hrl : ∀ r ∈ rs, r.1.length ≤ 1048576 ∧ r.2.length ≤ 1048576) (hsz : rs.length = 0 → 0 ≤ sizeI sh) : CallsA Try.prog 67 #[.int .i64 s, v, w] H fun r H' => Ans1 H H' r (redR s rs sh) := by
  have r0 := r
  obtain ⟨ra, rc, rfl, -⟩ := r0
  obtain ⟨wa, wc, rfl, -⟩ := h.op
  have hsl := sizeI_le (l := sh)
  have q := (LX.nil (H := H))
  refine w67 ?_
  unfold k67
  simp -implicitDefEqProofs only [kz, kk0, kk1, kk2, kk3, ↓two_true, ↓two_false, mkv, aggAt, Nat.reduceLeDiff, Nat.reduceSub, Nat.reduceMul, implies_true, Nat.reduceEqDiff, reduceIte, Nat.reduceAdd, Nat.reduceBEq, reduceCtorEq, al26, ap22_22, bd26, bs22_1, fa26_1, ix39, ld22, ld26, ln39, st22, st26, implNeutral_eq]
  refine st_box q fun H1 q1 => ?_
  simp -implicitDefEqProofs only [kz, kk0, kk1, kk2, kk3, ↓two_true, ↓two_false, mkv, aggAt, Nat.reduceLeDiff, Nat.reduceSub, Nat.reduceMul, implies_true, Nat.reduceEqDiff, reduceIte, Nat.reduceAdd, Nat.reduceBEq, reduceCtorEq, al26, ap22_22, bd26, bs22_1, fa26_1, ix39, ld22, ld26, ln39, st22, st26, implNeutral_eq, q1.rd 0 rfl]
  refine two_intro (fun u1 => ?_) (fun u1 => ?_)
  ·
    have hr0 : rs.length = 0 := by simpa using u1
    try simp -implicitDefEqProofs only [kz, kk0, kk1, kk2, kk3, ↓two_true, ↓two_false, mkv, aggAt, Nat.reduceLeDiff, Nat.reduceSub, Nat.reduceMul, implies_true, Nat.reduceEqDiff, reduceIte, Nat.reduceAdd, Nat.reduceBEq, reduceCtorEq, al26, ap22_22, bd26, bs22_1, fa26_1, ix39, ld22, ld26, ln39, st22, st26, implNeutral_eq, q1.rd 0 rfl]
    have q2 := q1.nil0
    refine st_app q2 0 rfl (h.ext q2.ext) (by (try simp only [List.length_cons, List.length_nil, List.length_append, List.length_replicate, List.length_map, List.length_take, List.length_drop]); omega) fun a1 c1 H2 q3 => ?_
    simp only [List.set_cons_zero, List.set_cons_succ, List.length_nil, List.length_cons, Nat.zero_add, List.nil_append] at q3 ⊢
    simp -implicitDefEqProofs only [kz, kk0, kk1, kk2, kk3, ↓two_true, ↓two_false, mkv, aggAt, Nat.reduceLeDiff, Nat.reduceSub, Nat.reduceMul, implies_true, Nat.reduceEqDiff, reduceIte, Nat.reduceAdd, Nat.reduceBEq, reduceCtorEq, al26, ap22_22, bd26, bs22_1, fa26_1, ix39, ld22, ld26, ln39, st22, st26, implNeutral_eq, q3.rd 1 rfl]
    try simp -implicitDefEqProofs only [kz, kk0, kk1, kk2, kk3, ↓two_true, ↓two_false, mkv, aggAt, Nat.reduceLeDiff, Nat.reduceSub, Nat.reduceMul, implies_true, Nat.reduceEqDiff, reduceIte, Nat.reduceAdd, Nat.reduceBEq, reduceCtorEq, al26, ap22_22, bd26, bs22_1, fa26_1, ix39, ld22, ld26, ln39, st22, st26, implNeutral_eq, q3.rd 1 rfl]
    refine st_box q3 fun H3 q4 => ?_
    simp -implicitDefEqProofs only [kz, kk0, kk1, kk2, kk3, ↓two_true, ↓two_false, mkv, aggAt, Nat.reduceLeDiff, Nat.reduceSub, Nat.reduceMul, implies_true, Nat.reduceEqDiff, reduceIte, Nat.reduceAdd, Nat.reduceBEq, reduceCtorEq, al26, ap22_22, bd26, bs22_1, fa26_1, ix39, ld22, ld26, ln39, st22, st26, implNeutral_eq, q4.rd 0 rfl, q4.rd 2 rfl]
    refine st_set q4 0 rfl fun H4 q5 => ?_
    simp only [List.set_cons_zero, List.set_cons_succ] at q5
    simp -implicitDefEqProofs only [kz, kk0, kk1, kk2, kk3, ↓two_true, ↓two_false, mkv, aggAt, Nat.reduceLeDiff, Nat.reduceSub, Nat.reduceMul, implies_true, Nat.reduceEqDiff, reduceIte, Nat.reduceAdd, Nat.reduceBEq, reduceCtorEq, al26, ap22_22, bd26, bs22_1, fa26_1, ix39, ld22, ld26, ln39, st22, st26, implNeutral_eq, q5.rd 0 rfl, q5.rd 2 rfl]
    have q6 := q5.nil0
    refine rW_loopQ (σ := Nat × Option Addr × Nat) q6 [2, 6, 7, 8, 10] (fun x tm => tm 11 = .int .i64 x.1 ∧ x.1 ≤ (sizeI sh).toNat) (fun x L => (L.set 1 (.own (.box H2.length [.slice a1 sh.length c1, .slice x.2.1 (List.replicate x.1 (neuF s).1).length x.2.2]))).set 0 (.own (.row (.slice x.2.1 (List.replicate x.1 (neuF s).1).length x.2.2) (List.replicate x.1 (neuF s).1)))) (fun x => (sizeI sh).toNat - x.1) (0, none, 0) ⟨rfl, Nat.zero_le _⟩ rfl ?_
    rintro ⟨i, av, cv⟩ tm1 H5 ⟨h1, h2, h3, h4, h5, -⟩ ⟨ki, hi⟩ q7
    simp -implicitDefEqProofs only [kz, kk0, kk1, kk2, kk3, ↓two_true, ↓two_false, mkv, aggAt, Nat.reduceLeDiff, Nat.reduceSub, Nat.reduceMul, implies_true, Nat.reduceEqDiff, reduceIte, Nat.reduceAdd, Nat.reduceBEq, reduceCtorEq, al26, ap22_22, bd26, bs22_1, fa26_1, ix39, ld22, ld26, ln39, st22, st26] at h1 h2 h3 h4 h5
    simp only [List.set_cons_zero, List.set_cons_succ] at q7
    simp only at ki hi
    have wi := IntWalk.i64_in ((i : Int) + 1) (by omega)
    have es1 := fun Φ => (implSizeOf_ok (h.ext q7.ext) (by omega)).eq0 (Φ := Φ)
    simp -implicitDefEqProofs only [kz, kk0, kk1, kk2, kk3, ↓two_true, ↓two_false, mkv, aggAt, Nat.reduceLeDiff, Nat.reduceSub, Nat.reduceMul, implies_true, Nat.reduceEqDiff, reduceIte, Nat.reduceAdd, Nat.reduceBEq, reduceCtorEq, al26, ap22_22, bd26, bs22_1, fa26_1, ix39, ld22, ld26, ln39, st22, st26, implNeutral_eq, es1, h1, h2, h3, h4, h5, ki, wi, q7.rd 1 rfl, q7.rd 3 rfl]
    refine two_intro (fun u2 => ?_) (fun u2 => ?_)
    ·
      have hc : (i : Int) < sizeI sh := by simpa using u2
      try simp -implicitDefEqProofs only [kz, kk0, kk1, kk2, kk3, ↓two_true, ↓two_false, mkv, aggAt, Nat.reduceLeDiff, Nat.reduceSub, Nat.reduceMul, implies_true, Nat.reduceEqDiff, reduceIte, Nat.reduceAdd, Nat.reduceBEq, reduceCtorEq, al26, ap22_22, bd26, bs22_1, fa26_1, ix39, ld22, ld26, ln39, st22, st26, implNeutral_eq, es1, h1, h2, h3, h4, h5, ki, wi, q7.rd 1 rfl, q7.rd 3 rfl]
      refine st_lit [_] rfl rfl q7 fun H6 q8 => ?_
      simp -implicitDefEqProofs only [kz, kk0, kk1, kk2, kk3, ↓two_true, ↓two_false, mkv, aggAt, Nat.reduceLeDiff, Nat.reduceSub, Nat.reduceMul, implies_true, Nat.reduceEqDiff, reduceIte, Nat.reduceAdd, Nat.reduceBEq, reduceCtorEq, al26, ap22_22, bd26, bs22_1, fa26_1, ix39, ld22, ld26, ln39, st22, st26, implNeutral_eq, es1, h1, h2, h3, h4, h5, ki, wi, q8.rd 2 rfl, q8.rd 4 rfl]
      refine st_app q8 1 rfl (q8.int 0 rfl) (by (try simp only [List.length_cons, List.length_nil, List.length_append, List.length_replicate, List.length_map, List.length_take, List.length_drop]); omega) fun a2 c2 H7 q9 => ?_
      simp only [List.set_cons_zero, List.set_cons_succ, List.length_nil, List.length_cons, Nat.zero_add, List.nil_append] at q9 ⊢
      simp -implicitDefEqProofs only [kz, kk0, kk1, kk2, kk3, ↓two_true, ↓two_false, mkv, aggAt, Nat.reduceLeDiff, Nat.reduceSub, Nat.reduceMul, implies_true, Nat.reduceEqDiff, reduceIte, Nat.reduceAdd, Nat.reduceBEq, reduceCtorEq, al26, ap22_22, bd26, bs22_1, fa26_1, ix39, ld22, ld26, ln39, st22, st26, implNeutral_eq, es1, h1, h2, h3, h4, h5, ki, wi, q9.rd 2 rfl, q9.rd 4 rfl]
      refine st_set q9 2 rfl fun H8 q10 => ?_
      simp only [List.set_cons_zero, List.set_cons_succ] at q10
      simp -implicitDefEqProofs only [kz, kk0, kk1, kk2, kk3, ↓two_true, ↓two_false, mkv, aggAt, Nat.reduceLeDiff, Nat.reduceSub, Nat.reduceMul, implies_true, Nat.reduceEqDiff, reduceIte, Nat.reduceAdd, Nat.reduceBEq, reduceCtorEq, al26, ap22_22, bd26, bs22_1, fa26_1, ix39, ld22, ld26, ln39, st22, st26, implNeutral_eq, es1, h1, h2, h3, h4, h5, ki, wi, q10.rd 2 rfl, q10.rd 4 rfl]
      -- back loop1
      refine ⟨(i + 1, a2, c2), (by simp only; omega), ⟨rfl, rfl, rfl, rfl, rfl, trivial⟩, ⟨by first | rfl | simp, by simp only; omega⟩, ?_⟩
      simp only [List.set_cons_zero, List.set_cons_succ, List.replicate_succ', List.length_append, List.length_cons, List.length_nil, Nat.zero_add]
      exact q10.pick [1, 2, 3, 4] _ rfl (by decide)
    ·
      have hil : i = (sizeI sh).toNat := by have : ¬ (i : Int) < sizeI sh := (by simpa using u2); omega
      subst hil
      try simp -implicitDefEqProofs only [kz, kk0, kk1, kk2, kk3, ↓two_true, ↓two_false, mkv, aggAt, Nat.reduceLeDiff, Nat.reduceSub, Nat.reduceMul, implies_true, Nat.reduceEqDiff, reduceIte, Nat.reduceAdd, Nat.reduceBEq, reduceCtorEq, al26, ap22_22, bd26, bs22_1, fa26_1, ix39, ld22, ld26, ln39, st22, st26, implNeutral_eq, es1, h1, h2, h3, h4, h5, ki, wi, q7.rd 1 rfl, q7.rd 3 rfl]
      refine (implOk_ar (q7.ar 2 0 rfl rfl (by (try simp only [List.length_cons, List.length_nil, List.length_append, List.length_replicate, List.length_map, List.length_take, List.length_drop]); omega) (by (try simp only [List.length_cons, List.length_nil, List.length_append, List.length_replicate, List.length_map, List.length_take, List.length_drop]); omega))).mono ?_
      rintro _ H9 ⟨rfl, he1⟩
      have q11 := q7.extd he1
      simp -implicitDefEqProofs only [kz, kk0, kk1, kk2, kk3, ↓two_true, ↓two_false, mkv, aggAt, Nat.reduceLeDiff, Nat.reduceSub, Nat.reduceMul, implies_true, Nat.reduceEqDiff, reduceIte, Nat.reduceAdd, Nat.reduceBEq, reduceCtorEq, al26, ap22_22, bd26, bs22_1, fa26_1, ix39, ld22, ld26, ln39, st22, st26, implNeutral_eq, es1, h1, h2, h3, h4, h5, ki, wi, q11.rd 1 rfl, q11.rd 3 rfl]
      refine two_intro (fun u3 => ?_) (fun u3 => ?_)
      ·
        try simp -implicitDefEqProofs only [kz, kk0, kk1, kk2, kk3, ↓two_true, ↓two_false, mkv, aggAt, Nat.reduceLeDiff, Nat.reduceSub, Nat.reduceMul, implies_true, Nat.reduceEqDiff, reduceIte, Nat.reduceAdd, Nat.reduceBEq, reduceCtorEq, al26, ap22_22, bd26, bs22_1, fa26_1, ix39, ld22, ld26, ln39, st22, st26, implNeutral_eq, es1, h1, h2, h3, h4, h5, ki, wi, q11.rd 1 rfl, q11.rd 3 rfl]
        refine st_set q11 3 rfl fun H10 q12 => ?_
        simp only [List.set_cons_zero, List.set_cons_succ] at q12
        simp -implicitDefEqProofs only [kz, kk0, kk1, kk2, kk3, ↓two_true, ↓two_false, mkv, aggAt, Nat.reduceLeDiff, Nat.reduceSub, Nat.reduceMul, implies_true, Nat.reduceEqDiff, reduceIte, Nat.reduceAdd, Nat.reduceBEq, reduceCtorEq, al26, ap22_22, bd26, bs22_1, fa26_1, ix39, ld22, ld26, ln39, st22, st26, implNeutral_eq, es1, h1, h2, h3, h4, h5, ki, wi, q12.rd 1 rfl, q12.rd 3 rfl]
        -- end1
        exfalso
        rw [arrOk_neu (hsz hr0)] at u3
        cases u3
      ·
        try simp -implicitDefEqProofs only [kz, kk0, kk1, kk2, kk3, ↓two_true, ↓two_false, mkv, aggAt, Nat.reduceLeDiff, Nat.reduceSub, Nat.reduceMul, implies_true, Nat.reduceEqDiff, reduceIte, Nat.reduceAdd, Nat.reduceBEq, reduceCtorEq, al26, ap22_22, bd26, bs22_1, fa26_1, ix39, ld22, ld26, ln39, st22, st26, implNeutral_eq, es1, h1, h2, h3, h4, h5, ki, wi, q11.rd 1 rfl, q11.rd 3 rfl]
        refine st_set q11 3 rfl fun H11 q13 => ?_
        simp only [List.set_cons_zero, List.set_cons_succ] at q13
        simp -implicitDefEqProofs only [kz, kk0, kk1, kk2, kk3, ↓two_true, ↓two_false, mkv, aggAt, Nat.reduceLeDiff, Nat.reduceSub, Nat.reduceMul, implies_true, Nat.reduceEqDiff, reduceIte, Nat.reduceAdd, Nat.reduceBEq, reduceCtorEq, al26, ap22_22, bd26, bs22_1, fa26_1, ix39, ld22, ld26, ln39, st22, st26, implNeutral_eq, es1, h1, h2, h3, h4, h5, ki, wi, q13.rd 1 rfl, q13.rd 3 rfl]
        -- end2
        exact q13.ans 2 0 (by decide) rfl rfl (by unfold redR; rw [if_pos hr0])
  ·
    have hr0 : rs.length ≠ 0 := by simpa using u1
    have hr1 : 0 < rs.length := by omega
    obtain ⟨n, hn⟩ : ∃ n, rs.length = n + 1 := ⟨rs.length - 1, by omega⟩
    have w1 : IntKind.i64.wrap ((rs.length : Int) - 1) = (n : Int) := by rw [IntWalk.i64_in _ (by omega)]; omega
    have w2 : IntKind.i64.wrap ((rs.length : Int) - 2) = (n : Int) - 1 := by rw [IntWalk.i64_in _ (by omega)]; omega
    obtain ⟨b1, o1, cs1, p1, p2, ei1, fr1, fc1, fc2, fi1, fi2⟩ := ixR r (i := n) (by omega)
    obtain ⟨a3, c3, rfl, -⟩ := fi1.op
    obtain ⟨a4, c4, rfl, -⟩ := fi2.op
    try simp -implicitDefEqProofs only [kz, kk0, kk1, kk2, kk3, ↓two_true, ↓two_false, mkv, aggAt, Nat.reduceLeDiff, Nat.reduceSub, Nat.reduceMul, implies_true, Nat.reduceEqDiff, reduceIte, Nat.reduceAdd, Nat.reduceBEq, reduceCtorEq, al26, ap22_22, bd26, bs22_1, fa26_1, ix39, ld22, ld26, ln39, st22, st26, implNeutral_eq, w1, w2, ei1, rd_ext fr1 q1.ext, fc1, fc2, ldA2 fc1 fc2, q1.rd 0 rfl]
    refine (copyA_ok (AR.mk (fi1.ext q1.ext) (fi2.ext q1.ext) (hrl _ (List.getElem_mem _)).1 (hrl _ (List.getElem_mem _)).2)).mono ?_
    rintro _ H12 ⟨p3, p4, rfl, g1⟩
    have q14 := q1.join g1
    simp only [List.map_cons, List.map_nil, List.cons_append, List.nil_append] at q14
    obtain ⟨a5, c5, rfl⟩ := (q14.own 0 rfl).isSlice
    obtain ⟨a6, c6, rfl⟩ := (q14.own 1 rfl).isSlice
    simp -implicitDefEqProofs only [kz, kk0, kk1, kk2, kk3, ↓two_true, ↓two_false, mkv, aggAt, Nat.reduceLeDiff, Nat.reduceSub, Nat.reduceMul, implies_true, Nat.reduceEqDiff, reduceIte, Nat.reduceAdd, Nat.reduceBEq, reduceCtorEq, al26, ap22_22, bd26, bs22_1, fa26_1, ix39, ld22, ld26, ln39, st22, st26, implNeutral_eq, w1, w2, ei1, rd_ext fr1 q14.ext, fc1, fc2, ldA2 fc1 fc2, q14.rd 2 rfl]
    try simp -implicitDefEqProofs only [kz, kk0, kk1, kk2, kk3, ↓two_true, ↓two_false, mkv, aggAt, Nat.reduceLeDiff, Nat.reduceSub, Nat.reduceMul, implies_true, Nat.reduceEqDiff, reduceIte, Nat.reduceAdd, Nat.reduceBEq, reduceCtorEq, al26, ap22_22, bd26, bs22_1, fa26_1, ix39, ld22, ld26, ln39, st22, st26, implNeutral_eq, w1, w2, ei1, rd_ext fr1 q14.ext, fc1, fc2, ldA2 fc1 fc2, q14.rd 2 rfl]
    refine st_box q14 fun H13 q15 => ?_
    simp -implicitDefEqProofs only [kz, kk0, kk1, kk2, kk3, ↓two_true, ↓two_false, mkv, aggAt, Nat.reduceLeDiff, Nat.reduceSub, Nat.reduceMul, implies_true, Nat.reduceEqDiff, reduceIte, Nat.reduceAdd, Nat.reduceBEq, reduceCtorEq, al26, ap22_22, bd26, bs22_1, fa26_1, ix39, ld22, ld26, ln39, st22, st26, implNeutral_eq, w1, w2, ei1, rd_ext fr1 q15.ext, fc1, fc2, ldA2 fc1 fc2, q15.rd 0 rfl, q15.rd 3 rfl]
    refine st_set q15 0 rfl fun H14 q16 => ?_
    simp only [List.set_cons_zero, List.set_cons_succ] at q16
    simp -implicitDefEqProofs only [kz, kk0, kk1, kk2, kk3, ↓two_true, ↓two_false, mkv, aggAt, Nat.reduceLeDiff, Nat.reduceSub, Nat.reduceMul, implies_true, Nat.reduceEqDiff, reduceIte, Nat.reduceAdd, Nat.reduceBEq, reduceCtorEq, al26, ap22_22, bd26, bs22_1, fa26_1, ix39, ld22, ld26, ln39, st22, st26, implNeutral_eq, w1, w2, ei1, rd_ext fr1 q16.ext, fc1, fc2, ldA2 fc1 fc2, q16.rd 0 rfl, q16.rd 3 rfl]
    refine rW_loopQ (σ := Nat × (List Int × List Int) × (Option Addr × Nat) × (Option Addr × Nat)) q16 [0, 1, 6, 12] (fun x tm => tm 13 = .int .i64 ((x.1 : Int) - 1) ∧ x.1 < rs.length ∧ redL s (rs.drop x.1) = (x.2.1, 0) ∧ x.2.1.1.length ≤ 1048576 ∧ x.2.1.2.length ≤ 1048576) (fun x L => ((L.set 0 (.own (.box H12.length [.slice x.2.2.1.1 x.2.1.1.length x.2.2.1.2, .slice x.2.2.2.1 x.2.1.2.length x.2.2.2.2]))).set 1 (.own (.row (.slice x.2.2.1.1 x.2.1.1.length x.2.2.1.2) x.2.1.1))).set 2 (.own (.row (.slice x.2.2.2.1 x.2.1.2.length x.2.2.2.2) x.2.1.2))) (fun x => x.1) (n, rs[n], (a5, c5), (a6, c6)) ⟨rfl, by simp only; omega, by have := redL_last (s := s) hr1; simpa [hn] using this, (hrl _ (List.getElem_mem _)).1, (hrl _ (List.getElem_mem _)).2⟩ rfl ?_
    rintro ⟨k, ⟨S, D⟩, ⟨av, cv⟩, aw, cw⟩ tm2 H15 ⟨h6, h7, h8, h9, -⟩ ⟨ki, hk1, hred, hS1, hD1⟩ q17
    simp -implicitDefEqProofs only [kz, kk0, kk1, kk2, kk3, ↓two_true, ↓two_false, mkv, aggAt, Nat.reduceLeDiff, Nat.reduceSub, Nat.reduceMul, implies_true, Nat.reduceEqDiff, reduceIte, Nat.reduceAdd, Nat.reduceBEq, reduceCtorEq, al26, ap22_22, bd26, bs22_1, fa26_1, ix39, ld22, ld26, ln39, st22, st26, w1, w2, ei1, rd_ext fr1 q16.ext, fc1, fc2, ldA2 fc1 fc2] at h6 h7 h8 h9
    simp only [List.set_cons_zero, List.set_cons_succ] at q17
    simp only at ki hk1 hred hS1 hD1
    simp -implicitDefEqProofs only [kz, kk0, kk1, kk2, kk3, ↓two_true, ↓two_false, mkv, aggAt, Nat.reduceLeDiff, Nat.reduceSub, Nat.reduceMul, implies_true, Nat.reduceEqDiff, reduceIte, Nat.reduceAdd, Nat.reduceBEq, reduceCtorEq, al26, ap22_22, bd26, bs22_1, fa26_1, ix39, ld22, ld26, ln39, st22, st26, implNeutral_eq, w1, w2, ei1, rd_ext fr1 q17.ext, fc1, fc2, ldA2 fc1 fc2, h6, h7, h8, h9, ki, q17.rd 0 rfl, q17.rd 3 rfl]
    refine two_intro (fun u4 => ?_) (fun u4 => ?_)
    ·
      have hk : 0 ≤ (k : Int) - 1 := by simpa using u4
      obtain ⟨j, rfl⟩ : ∃ j, k = j + 1 := ⟨k - 1, by omega⟩
      have e1 : ((j + 1 : Nat) : Int) - 1 = (j : Int) := by omega
      have wj : IntKind.i64.wrap ((j : Int) - 1) = (j : Int) - 1 := IntWalk.i64_in _ (by omega)
      have hjn : j < rs.length := by omega
      obtain ⟨b2, o2, cs2, p5, p6, ei2, fr2, fc3, fc4, fi3, fi4⟩ := ixR r hjn
      obtain ⟨a7, c7, rfl, -⟩ := fi3.op
      obtain ⟨a8, c8, rfl, -⟩ := fi4.op
      try simp -implicitDefEqProofs only [kz, kk0, kk1, kk2, kk3, ↓two_true, ↓two_false, mkv, aggAt, Nat.reduceLeDiff, Nat.reduceSub, Nat.reduceMul, implies_true, Nat.reduceEqDiff, reduceIte, Nat.reduceAdd, Nat.reduceBEq, reduceCtorEq, al26, ap22_22, bd26, bs22_1, fa26_1, ix39, ld22, ld26, ln39, st22, st26, implNeutral_eq, w1, w2, ei1, rd_ext fr1 q17.ext, fc1, fc2, ldA2 fc1 fc2, ei2, rd_ext fr2 q17.ext, fc3, fc4, ldA2 fc3 fc4, h6, h7, h8, h9, ki, e1, wj, q17.rd 0 rfl, q17.rd 3 rfl]
      refine (implEachTwo_ok  (AR.mk (fi3.ext q17.ext) (fi4.ext q17.ext) (hrl _ (List.getElem_mem _)).1 (hrl _ (List.getElem_mem _)).2) (q17.ar 1 2 rfl rfl (by (try simp only [List.length_cons, List.length_nil, List.length_append, List.length_replicate, List.length_map, List.length_take, List.length_drop]); omega) (by (try simp only [List.length_cons, List.length_nil, List.length_append, List.length_replicate, List.length_map, List.length_take, List.length_drop]); omega))).mono ?_
      rintro _ H16 ⟨p7, p8, rfl, g2⟩
      obtain ⟨R1, hR1⟩ : ∃ R, each2R s rs[j].1 rs[j].2 S D = R := ⟨_, rfl⟩
      rw [hR1] at g2 ⊢
      have q18 := q17.join g2
      simp only [List.map_cons, List.map_nil, List.cons_append, List.nil_append] at q18
      obtain ⟨a9, c9, rfl⟩ := (q18.own 0 rfl).isSlice
      obtain ⟨a10, c10, rfl⟩ := (q18.own 1 rfl).isSlice
      obtain ⟨hl1, hl2⟩ := each2R_lim hR1
      simp -implicitDefEqProofs only [kz, kk0, kk1, kk2, kk3, ↓two_true, ↓two_false, mkv, aggAt, Nat.reduceLeDiff, Nat.reduceSub, Nat.reduceMul, implies_true, Nat.reduceEqDiff, reduceIte, Nat.reduceAdd, Nat.reduceBEq, reduceCtorEq, al26, ap22_22, bd26, bs22_1, fa26_1, ix39, ld22, ld26, ln39, st22, st26, implNeutral_eq, w1, w2, ei1, rd_ext fr1 q18.ext, fc1, fc2, ldA2 fc1 fc2, ei2, rd_ext fr2 q18.ext, fc3, fc4, ldA2 fc3 fc4, h6, h7, h8, h9, ki, e1, wj, q18.rd 2 rfl, q18.rd 5 rfl, q17.rd 0 rfl, q17.rd 3 rfl]
      refine st_box q18 fun H17 q19 => ?_
      simp -implicitDefEqProofs only [kz, kk0, kk1, kk2, kk3, ↓two_true, ↓two_false, mkv, aggAt, Nat.reduceLeDiff, Nat.reduceSub, Nat.reduceMul, implies_true, Nat.reduceEqDiff, reduceIte, Nat.reduceAdd, Nat.reduceBEq, reduceCtorEq, al26, ap22_22, bd26, bs22_1, fa26_1, ix39, ld22, ld26, ln39, st22, st26, implNeutral_eq, w1, w2, ei1, rd_ext fr1 q19.ext, fc1, fc2, ldA2 fc1 fc2, ei2, rd_ext fr2 q19.ext, fc3, fc4, ldA2 fc3 fc4, h6, h7, h8, h9, ki, e1, wj, q19.rd 0 rfl, q19.rd 3 rfl, q19.rd 6 rfl, q17.rd 0 rfl, q17.rd 3 rfl, q18.rd 2 rfl, q18.rd 5 rfl]
      refine st_set q19 0 rfl fun H18 q20 => ?_
      simp only [List.set_cons_zero, List.set_cons_succ] at q20
      simp -implicitDefEqProofs only [kz, kk0, kk1, kk2, kk3, ↓two_true, ↓two_false, mkv, aggAt, Nat.reduceLeDiff, Nat.reduceSub, Nat.reduceMul, implies_true, Nat.reduceEqDiff, reduceIte, Nat.reduceAdd, Nat.reduceBEq, reduceCtorEq, al26, ap22_22, bd26, bs22_1, fa26_1, ix39, ld22, ld26, ln39, st22, st26, implNeutral_eq, w1, w2, ei1, rd_ext fr1 q20.ext, fc1, fc2, ldA2 fc1 fc2, ei2, rd_ext fr2 q20.ext, fc3, fc4, ldA2 fc3 fc4, h6, h7, h8, h9, ki, e1, wj, q20.rd 0 rfl, q20.rd 3 rfl, q20.rd 6 rfl, q17.rd 0 rfl, q17.rd 3 rfl, q18.rd 2 rfl, q18.rd 5 rfl, q19.rd 0 rfl, q19.rd 3 rfl, q19.rd 6 rfl]
      try simp -implicitDefEqProofs only [kz, kk0, kk1, kk2, kk3, ↓two_true, ↓two_false, mkv, aggAt, Nat.reduceLeDiff, Nat.reduceSub, Nat.reduceMul, implies_true, Nat.reduceEqDiff, reduceIte, Nat.reduceAdd, Nat.reduceBEq, reduceCtorEq, al26, ap22_22, bd26, bs22_1, fa26_1, ix39, ld22, ld26, ln39, st22, st26, implNeutral_eq, w1, w2, ei1, rd_ext fr1 q20.ext, fc1, fc2, ldA2 fc1 fc2, ei2, rd_ext fr2 q20.ext, fc3, fc4, ldA2 fc3 fc4, h6, h7, h8, h9, ki, e1, wj, q20.rd 0 rfl, q20.rd 3 rfl, q20.rd 6 rfl]
      refine two_intro (fun u5 => ?_) (fun u5 => ?_)
      ·
        have hne : R1.2 ≠ 0 := by simpa using u5
        have hst := redL_drop (s := s) (rs := rs) (k := j) hk1
        rw [hred] at hst
        unfold redS at hst
        rw [if_pos rfl, hR1] at hst
        have hfin := redL_err (s := s) hjn (by rw [hst]; exact hne)
        rw [hst] at hfin
        have h12 := each2R_err (s := s) (sa := rs[j].1) (da := rs[j].2) (sb := S) (db := D) (by rw [hR1]; exact hne)
        rw [hR1] at h12
        try simp -implicitDefEqProofs only [kz, kk0, kk1, kk2, kk3, ↓two_true, ↓two_false, mkv, aggAt, Nat.reduceLeDiff, Nat.reduceSub, Nat.reduceMul, implies_true, Nat.reduceEqDiff, reduceIte, Nat.reduceAdd, Nat.reduceBEq, reduceCtorEq, al26, ap22_22, bd26, bs22_1, fa26_1, ix39, ld22, ld26, ln39, st22, st26, implNeutral_eq, w1, w2, ei1, rd_ext fr1 q20.ext, fc1, fc2, ldA2 fc1 fc2, ei2, rd_ext fr2 q20.ext, fc3, fc4, ldA2 fc3 fc4, h6, h7, h8, h9, ki, e1, wj, q20.rd 0 rfl, q20.rd 3 rfl, q20.rd 6 rfl]
        refine st_set q20 6 rfl fun H19 q21 => ?_
        simp only [List.set_cons_zero, List.set_cons_succ] at q21
        simp -implicitDefEqProofs only [kz, kk0, kk1, kk2, kk3, ↓two_true, ↓two_false, mkv, aggAt, Nat.reduceLeDiff, Nat.reduceSub, Nat.reduceMul, implies_true, Nat.reduceEqDiff, reduceIte, Nat.reduceAdd, Nat.reduceBEq, reduceCtorEq, al26, ap22_22, bd26, bs22_1, fa26_1, ix39, ld22, ld26, ln39, st22, st26, implNeutral_eq, w1, w2, ei1, rd_ext fr1 q21.ext, fc1, fc2, ldA2 fc1 fc2, ei2, rd_ext fr2 q21.ext, fc3, fc4, ldA2 fc3 fc4, h6, h7, h8, h9, ki, e1, wj, q21.rd 0 rfl, q21.rd 3 rfl, q21.rd 6 rfl]
        -- end3
        exact q21.err (by unfold redR; rw [if_neg hr0, hfin]; exact Prod.ext h12 rfl)
      ·
        have hz : R1.2 = 0 := by simpa using u5
        have hst := redL_drop (s := s) (rs := rs) (k := j) hk1
        rw [hred] at hst
        unfold redS at hst
        rw [if_pos rfl, hR1] at hst
        try simp -implicitDefEqProofs only [kz, kk0, kk1, kk2, kk3, ↓two_true, ↓two_false, mkv, aggAt, Nat.reduceLeDiff, Nat.reduceSub, Nat.reduceMul, implies_true, Nat.reduceEqDiff, reduceIte, Nat.reduceAdd, Nat.reduceBEq, reduceCtorEq, al26, ap22_22, bd26, bs22_1, fa26_1, ix39, ld22, ld26, ln39, st22, st26, implNeutral_eq, w1, w2, ei1, rd_ext fr1 q20.ext, fc1, fc2, ldA2 fc1 fc2, ei2, rd_ext fr2 q20.ext, fc3, fc4, ldA2 fc3 fc4, h6, h7, h8, h9, ki, e1, wj, q20.rd 0 rfl, q20.rd 3 rfl, q20.rd 6 rfl]
        refine st_set q20 3 rfl fun H20 q22 => ?_
        simp only [List.set_cons_zero, List.set_cons_succ] at q22
        simp -implicitDefEqProofs only [kz, kk0, kk1, kk2, kk3, ↓two_true, ↓two_false, mkv, aggAt, Nat.reduceLeDiff, Nat.reduceSub, Nat.reduceMul, implies_true, Nat.reduceEqDiff, reduceIte, Nat.reduceAdd, Nat.reduceBEq, reduceCtorEq, al26, ap22_22, bd26, bs22_1, fa26_1, ix39, ld22, ld26, ln39, st22, st26, implNeutral_eq, w1, w2, ei1, rd_ext fr1 q22.ext, fc1, fc2, ldA2 fc1 fc2, ei2, rd_ext fr2 q22.ext, fc3, fc4, ldA2 fc3 fc4, h6, h7, h8, h9, ki, e1, wj, q22.rd 0 rfl, q22.rd 3 rfl, q22.rd 6 rfl]
        -- back loop2
        refine ⟨(j, R1.1, (a9, c9), (a10, c10)), (by simp only; omega), ⟨rfl, rfl, rfl, rfl, trivial⟩, ⟨rfl, by simp only; omega, by simp only; rw [hst]; exact Prod.ext rfl hz, by simp only; omega, by simp only; omega⟩, ?_⟩
        simp only [List.set_cons_zero, List.set_cons_succ]
        exact q22.pick [3, 1, 2, 6] _ rfl (by decide)
    ·
      have hk0 : k = 0 := by have : ¬ (0 : Int) ≤ (k : Int) - 1 := (by simpa using u4); omega
      subst hk0
      rw [List.drop_zero] at hred
      try simp -implicitDefEqProofs only [kz, kk0, kk1, kk2, kk3, ↓two_true, ↓two_false, mkv, aggAt, Nat.reduceLeDiff, Nat.reduceSub, Nat.reduceMul, implies_true, Nat.reduceEqDiff, reduceIte, Nat.reduceAdd, Nat.reduceBEq, reduceCtorEq, al26, ap22_22, bd26, bs22_1, fa26_1, ix39, ld22, ld26, ln39, st22, st26, implNeutral_eq, w1, w2, ei1, rd_ext fr1 q17.ext, fc1, fc2, ldA2 fc1 fc2, h6, h7, h8, h9, ki, q17.rd 0 rfl, q17.rd 3 rfl]
      refine st_set q17 3 rfl fun H21 q23 => ?_
      simp only [List.set_cons_zero, List.set_cons_succ] at q23
      simp -implicitDefEqProofs only [kz, kk0, kk1, kk2, kk3, ↓two_true, ↓two_false, mkv, aggAt, Nat.reduceLeDiff, Nat.reduceSub, Nat.reduceMul, implies_true, Nat.reduceEqDiff, reduceIte, Nat.reduceAdd, Nat.reduceBEq, reduceCtorEq, al26, ap22_22, bd26, bs22_1, fa26_1, ix39, ld22, ld26, ln39, st22, st26, implNeutral_eq, w1, w2, ei1, rd_ext fr1 q23.ext, fc1, fc2, ldA2 fc1 fc2, h6, h7, h8, h9, ki, q23.rd 0 rfl, q23.rd 3 rfl]
      -- end4
      exact q23.ans 1 2 (by decide) rfl rfl (by unfold redR; rw [if_neg hr0]; exact hred)

theorem l7Reduce_ok {H : AH} {s : Int} {v w : Value} {rs : List (List Int × List Int)} {sh : List Int} (r : RowsA H v rs) (h : IntRow H w sh) (l1 : rs.length ≤ 1048576) (l2 : sh.length ≤ 1048575) (hrl : ∀ r ∈ rs, r.1.length ≤ 1048576 ∧ r.2.length ≤ 1048576) (hsz : rs.length = 0 → 0 ≤ sizeI sh) : CallsA Try.prog 62 #[.int .i64 s, v, w] H fun r H' => Ans1 H H' r (redR s rs sh) := by
  have r0 := r
  obtain ⟨ra, rc, rfl, -⟩ := r0
  obtain ⟨wa, wc, rfl, -⟩ := h.op
  have hsl := sizeI_le (l := sh)
  have q := (LX.nil (H := H))
  refine w62 ?_
  unfold k62
  simp -implicitDefEqProofs only [kz, kk0, kk1, kk2, kk3, ↓two_true, ↓two_false, mkv, aggAt, Nat.reduceLeDiff, Nat.reduceSub, Nat.reduceMul, implies_true, Nat.reduceEqDiff, reduceIte, Nat.reduceAdd, Nat.reduceBEq, reduceCtorEq, al26, ap22_22, bd26, bs22_0, bs22_1, fa26_1, ix39, ld22, ld26, ln39, st22, st26, specNeutral_eq]
  refine st_box q fun H1 q1 => ?_
  simp -implicitDefEqProofs only [kz, kk0, kk1, kk2, kk3, ↓two_true, ↓two_false, mkv, aggAt, Nat.reduceLeDiff, Nat.reduceSub, Nat.reduceMul, implies_true, Nat.reduceEqDiff, reduceIte, Nat.reduceAdd, Nat.reduceBEq, reduceCtorEq, al26, ap22_22, bd26, bs22_0, bs22_1, fa26_1, ix39, ld22, ld26, ln39, st22, st26, specNeutral_eq, q1.rd 0 rfl]
  refine two_intro (fun u1 => ?_) (fun u1 => ?_)
  ·
    have hr0 : rs.length = 0 := by simpa using u1
    try simp -implicitDefEqProofs only [kz, kk0, kk1, kk2, kk3, ↓two_true, ↓two_false, mkv, aggAt, Nat.reduceLeDiff, Nat.reduceSub, Nat.reduceMul, implies_true, Nat.reduceEqDiff, reduceIte, Nat.reduceAdd, Nat.reduceBEq, reduceCtorEq, al26, ap22_22, bd26, bs22_0, bs22_1, fa26_1, ix39, ld22, ld26, ln39, st22, st26, specNeutral_eq, q1.rd 0 rfl]
    refine st_lit [] rfl rfl q1 fun H2 q2 => ?_
    simp -implicitDefEqProofs only [kz, kk0, kk1, kk2, kk3, ↓two_true, ↓two_false, mkv, aggAt, Nat.reduceLeDiff, Nat.reduceSub, Nat.reduceMul, implies_true, Nat.reduceEqDiff, reduceIte, Nat.reduceAdd, Nat.reduceBEq, reduceCtorEq, al26, ap22_22, bd26, bs22_0, bs22_1, fa26_1, ix39, ld22, ld26, ln39, st22, st26, specNeutral_eq, q2.rd 1 rfl]
    refine st_app q2 0 rfl (h.ext q2.ext) (by (try simp only [List.length_cons, List.length_nil, List.length_append, List.length_replicate, List.length_map, List.length_take, List.length_drop]); omega) fun a1 c1 H3 q3 => ?_
    simp only [List.set_cons_zero, List.set_cons_succ, List.length_nil, List.length_cons, Nat.zero_add, List.nil_append] at q3 ⊢
    simp -implicitDefEqProofs only [kz, kk0, kk1, kk2, kk3, ↓two_true, ↓two_false, mkv, aggAt, Nat.reduceLeDiff, Nat.reduceSub, Nat.reduceMul, implies_true, Nat.reduceEqDiff, reduceIte, Nat.reduceAdd, Nat.reduceBEq, reduceCtorEq, al26, ap22_22, bd26, bs22_0, bs22_1, fa26_1, ix39, ld22, ld26, ln39, st22, st26, specNeutral_eq, q3.rd 1 rfl]
    try simp -implicitDefEqProofs only [kz, kk0, kk1, kk2, kk3, ↓two_true, ↓two_false, mkv, aggAt, Nat.reduceLeDiff, Nat.reduceSub, Nat.reduceMul, implies_true, Nat.reduceEqDiff, reduceIte, Nat.reduceAdd, Nat.reduceBEq, reduceCtorEq, al26, ap22_22, bd26, bs22_0, bs22_1, fa26_1, ix39, ld22, ld26, ln39, st22, st26, specNeutral_eq, q3.rd 1 rfl]
    refine st_box q3 fun H4 q4 => ?_
    simp -implicitDefEqProofs only [kz, kk0, kk1, kk2, kk3, ↓two_true, ↓two_false, mkv, aggAt, Nat.reduceLeDiff, Nat.reduceSub, Nat.reduceMul, implies_true, Nat.reduceEqDiff, reduceIte, Nat.reduceAdd, Nat.reduceBEq, reduceCtorEq, al26, ap22_22, bd26, bs22_0, bs22_1, fa26_1, ix39, ld22, ld26, ln39, st22, st26, specNeutral_eq, q4.rd 0 rfl, q4.rd 2 rfl]
    refine st_set q4 0 rfl fun H5 q5 => ?_
    simp only [List.set_cons_zero, List.set_cons_succ] at q5
    simp -implicitDefEqProofs only [kz, kk0, kk1, kk2, kk3, ↓two_true, ↓two_false, mkv, aggAt, Nat.reduceLeDiff, Nat.reduceSub, Nat.reduceMul, implies_true, Nat.reduceEqDiff, reduceIte, Nat.reduceAdd, Nat.reduceBEq, reduceCtorEq, al26, ap22_22, bd26, bs22_0, bs22_1, fa26_1, ix39, ld22, ld26, ln39, st22, st26, specNeutral_eq, q5.rd 0 rfl, q5.rd 2 rfl]
    have q6 := q5.nil0
    refine rW_loopQ (σ := Nat × Option Addr × Nat) q6 [2, 6, 7, 9, 11] (fun x tm => tm 12 = .int .i64 x.1 ∧ x.1 ≤ (sizeI sh).toNat) (fun x L => (L.set 1 (.own (.box H3.length [.slice a1 sh.length c1, .slice x.2.1 (List.replicate x.1 (neuF s).1).length x.2.2]))).set 0 (.own (.row (.slice x.2.1 (List.replicate x.1 (neuF s).1).length x.2.2) (List.replicate x.1 (neuF s).1)))) (fun x => (sizeI sh).toNat - x.1) (0, none, 0) ⟨rfl, Nat.zero_le _⟩ rfl ?_
    rintro ⟨i, av, cv⟩ tm1 H6 ⟨h1, h2, h3, h4, h5, -⟩ ⟨ki, hi⟩ q7
    simp -implicitDefEqProofs only [kz, kk0, kk1, kk2, kk3, ↓two_true, ↓two_false, mkv, aggAt, Nat.reduceLeDiff, Nat.reduceSub, Nat.reduceMul, implies_true, Nat.reduceEqDiff, reduceIte, Nat.reduceAdd, Nat.reduceBEq, reduceCtorEq, al26, ap22_22, bd26, bs22_0, bs22_1, fa26_1, ix39, ld22, ld26, ln39, st22, st26] at h1 h2 h3 h4 h5
    simp only [List.set_cons_zero, List.set_cons_succ] at q7
    simp only at ki hi
    have wi := IntWalk.i64_in ((i : Int) + 1) (by omega)
    have es1 := fun Φ => (specSizeOf_ok (h.ext q7.ext) (by omega)).eq0 (Φ := Φ)
    simp -implicitDefEqProofs only [kz, kk0, kk1, kk2, kk3, ↓two_true, ↓two_false, mkv, aggAt, Nat.reduceLeDiff, Nat.reduceSub, Nat.reduceMul, implies_true, Nat.reduceEqDiff, reduceIte, Nat.reduceAdd, Nat.reduceBEq, reduceCtorEq, al26, ap22_22, bd26, bs22_0, bs22_1, fa26_1, ix39, ld22, ld26, ln39, st22, st26, specNeutral_eq, es1, h1, h2, h3, h4, h5, ki, wi, q7.rd 1 rfl, q7.rd 3 rfl]
    refine two_intro (fun u2 => ?_) (fun u2 => ?_)
    ·
      have hc : (i : Int) < sizeI sh := by simpa using u2
      try simp -implicitDefEqProofs only [kz, kk0, kk1, kk2, kk3, ↓two_true, ↓two_false, mkv, aggAt, Nat.reduceLeDiff, Nat.reduceSub, Nat.reduceMul, implies_true, Nat.reduceEqDiff, reduceIte, Nat.reduceAdd, Nat.reduceBEq, reduceCtorEq, al26, ap22_22, bd26, bs22_0, bs22_1, fa26_1, ix39, ld22, ld26, ln39, st22, st26, specNeutral_eq, es1, h1, h2, h3, h4, h5, ki, wi, q7.rd 1 rfl, q7.rd 3 rfl]
      refine st_lit [_] rfl rfl q7 fun H7 q8 => ?_
      simp -implicitDefEqProofs only [kz, kk0, kk1, kk2, kk3, ↓two_true, ↓two_false, mkv, aggAt, Nat.reduceLeDiff, Nat.reduceSub, Nat.reduceMul, implies_true, Nat.reduceEqDiff, reduceIte, Nat.reduceAdd, Nat.reduceBEq, reduceCtorEq, al26, ap22_22, bd26, bs22_0, bs22_1, fa26_1, ix39, ld22, ld26, ln39, st22, st26, specNeutral_eq, es1, h1, h2, h3, h4, h5, ki, wi, q8.rd 2 rfl, q8.rd 4 rfl]
      refine st_app q8 1 rfl (q8.int 0 rfl) (by (try simp only [List.length_cons, List.length_nil, List.length_append, List.length_replicate, List.length_map, List.length_take, List.length_drop]); omega) fun a2 c2 H8 q9 => ?_
      simp only [List.set_cons_zero, List.set_cons_succ, List.length_nil, List.length_cons, Nat.zero_add, List.nil_append] at q9 ⊢
      simp -implicitDefEqProofs only [kz, kk0, kk1, kk2, kk3, ↓two_true, ↓two_false, mkv, aggAt, Nat.reduceLeDiff, Nat.reduceSub, Nat.reduceMul, implies_true, Nat.reduceEqDiff, reduceIte, Nat.reduceAdd, Nat.reduceBEq, reduceCtorEq, al26, ap22_22, bd26, bs22_0, bs22_1, fa26_1, ix39, ld22, ld26, ln39, st22, st26, specNeutral_eq, es1, h1, h2, h3, h4, h5, ki, wi, q9.rd 2 rfl, q9.rd 4 rfl]
      refine st_set q9 2 rfl fun H9 q10 => ?_
      simp only [List.set_cons_zero, List.set_cons_succ] at q10
      simp -implicitDefEqProofs only [kz, kk0, kk1, kk2, kk3, ↓two_true, ↓two_false, mkv, aggAt, Nat.reduceLeDiff, Nat.reduceSub, Nat.reduceMul, implies_true, Nat.reduceEqDiff, reduceIte, Nat.reduceAdd, Nat.reduceBEq, reduceCtorEq, al26, ap22_22, bd26, bs22_0, bs22_1, fa26_1, ix39, ld22, ld26, ln39, st22, st26, specNeutral_eq, es1, h1, h2, h3, h4, h5, ki, wi, q10.rd 2 rfl, q10.rd 4 rfl]
      -- back loop1
      refine ⟨(i + 1, a2, c2), (by simp only; omega), ⟨rfl, rfl, rfl, rfl, rfl, trivial⟩, ⟨by first | rfl | simp, by simp only; omega⟩, ?_⟩
      simp only [List.set_cons_zero, List.set_cons_succ, List.replicate_succ', List.length_append, List.length_cons, List.length_nil, Nat.zero_add]
      exact q10.pick [1, 2, 3, 4] _ rfl (by decide)
    ·
      have hil : i = (sizeI sh).toNat := by have : ¬ (i : Int) < sizeI sh := (by simpa using u2); omega
      subst hil
      try simp -implicitDefEqProofs only [kz, kk0, kk1, kk2, kk3, ↓two_true, ↓two_false, mkv, aggAt, Nat.reduceLeDiff, Nat.reduceSub, Nat.reduceMul, implies_true, Nat.reduceEqDiff, reduceIte, Nat.reduceAdd, Nat.reduceBEq, reduceCtorEq, al26, ap22_22, bd26, bs22_0, bs22_1, fa26_1, ix39, ld22, ld26, ln39, st22, st26, specNeutral_eq, es1, h1, h2, h3, h4, h5, ki, wi, q7.rd 1 rfl, q7.rd 3 rfl]
      refine st_set q7 3 rfl fun H10 q11 => ?_
      simp only [List.set_cons_zero, List.set_cons_succ] at q11
      simp -implicitDefEqProofs only [kz, kk0, kk1, kk2, kk3, ↓two_true, ↓two_false, mkv, aggAt, Nat.reduceLeDiff, Nat.reduceSub, Nat.reduceMul, implies_true, Nat.reduceEqDiff, reduceIte, Nat.reduceAdd, Nat.reduceBEq, reduceCtorEq, al26, ap22_22, bd26, bs22_0, bs22_1, fa26_1, ix39, ld22, ld26, ln39, st22, st26, specNeutral_eq, es1, h1, h2, h3, h4, h5, ki, wi, q11.rd 1 rfl, q11.rd 3 rfl]
      -- end1
      exact q11.ans 2 0 (by decide) rfl rfl (by unfold redR; rw [if_pos hr0])
  ·
    have hr0 : rs.length ≠ 0 := by simpa using u1
    have hr1 : 0 < rs.length := by omega
    obtain ⟨n, hn⟩ : ∃ n, rs.length = n + 1 := ⟨rs.length - 1, by omega⟩
    have w1 : IntKind.i64.wrap ((rs.length : Int) - 1) = (n : Int) := by rw [IntWalk.i64_in _ (by omega)]; omega
    have w2 : IntKind.i64.wrap ((rs.length : Int) - 2) = (n : Int) - 1 := by rw [IntWalk.i64_in _ (by omega)]; omega
    obtain ⟨b1, o1, cs1, p1, p2, ei1, fr1, fc1, fc2, fi1, fi2⟩ := ixR r (i := n) (by omega)
    obtain ⟨a3, c3, rfl, -⟩ := fi1.op
    obtain ⟨a4, c4, rfl, -⟩ := fi2.op
    try simp -implicitDefEqProofs only [kz, kk0, kk1, kk2, kk3, ↓two_true, ↓two_false, mkv, aggAt, Nat.reduceLeDiff, Nat.reduceSub, Nat.reduceMul, implies_true, Nat.reduceEqDiff, reduceIte, Nat.reduceAdd, Nat.reduceBEq, reduceCtorEq, al26, ap22_22, bd26, bs22_0, bs22_1, fa26_1, ix39, ld22, ld26, ln39, st22, st26, specNeutral_eq, w1, w2, ei1, rd_ext fr1 q1.ext, fc1, fc2, ldA2 fc1 fc2, q1.rd 0 rfl]
    refine (l3CopyA_ok (AR.mk (fi1.ext q1.ext) (fi2.ext q1.ext) (hrl _ (List.getElem_mem _)).1 (hrl _ (List.getElem_mem _)).2)).mono ?_
    rintro _ H11 ⟨p3, p4, rfl, g1⟩
    have q12 := q1.join g1
    simp only [List.map_cons, List.map_nil, List.cons_append, List.nil_append] at q12
    obtain ⟨a5, c5, rfl⟩ := (q12.own 0 rfl).isSlice
    obtain ⟨a6, c6, rfl⟩ := (q12.own 1 rfl).isSlice
    simp -implicitDefEqProofs only [kz, kk0, kk1, kk2, kk3, ↓two_true, ↓two_false, mkv, aggAt, Nat.reduceLeDiff, Nat.reduceSub, Nat.reduceMul, implies_true, Nat.reduceEqDiff, reduceIte, Nat.reduceAdd, Nat.reduceBEq, reduceCtorEq, al26, ap22_22, bd26, bs22_0, bs22_1, fa26_1, ix39, ld22, ld26, ln39, st22, st26, specNeutral_eq, w1, w2, ei1, rd_ext fr1 q12.ext, fc1, fc2, ldA2 fc1 fc2, q12.rd 2 rfl]
    try simp -implicitDefEqProofs only [kz, kk0, kk1, kk2, kk3, ↓two_true, ↓two_false, mkv, aggAt, Nat.reduceLeDiff, Nat.reduceSub, Nat.reduceMul, implies_true, Nat.reduceEqDiff, reduceIte, Nat.reduceAdd, Nat.reduceBEq, reduceCtorEq, al26, ap22_22, bd26, bs22_0, bs22_1, fa26_1, ix39, ld22, ld26, ln39, st22, st26, specNeutral_eq, w1, w2, ei1, rd_ext fr1 q12.ext, fc1, fc2, ldA2 fc1 fc2, q12.rd 2 rfl]
    refine st_box q12 fun H12 q13 => ?_
    simp -implicitDefEqProofs only [kz, kk0, kk1, kk2, kk3, ↓two_true, ↓two_false, mkv, aggAt, Nat.reduceLeDiff, Nat.reduceSub, Nat.reduceMul, implies_true, Nat.reduceEqDiff, reduceIte, Nat.reduceAdd, Nat.reduceBEq, reduceCtorEq, al26, ap22_22, bd26, bs22_0, bs22_1, fa26_1, ix39, ld22, ld26, ln39, st22, st26, specNeutral_eq, w1, w2, ei1, rd_ext fr1 q13.ext, fc1, fc2, ldA2 fc1 fc2, q13.rd 0 rfl, q13.rd 3 rfl]
    refine st_set q13 0 rfl fun H13 q14 => ?_
    simp only [List.set_cons_zero, List.set_cons_succ] at q14
    simp -implicitDefEqProofs only [kz, kk0, kk1, kk2, kk3, ↓two_true, ↓two_false, mkv, aggAt, Nat.reduceLeDiff, Nat.reduceSub, Nat.reduceMul, implies_true, Nat.reduceEqDiff, reduceIte, Nat.reduceAdd, Nat.reduceBEq, reduceCtorEq, al26, ap22_22, bd26, bs22_0, bs22_1, fa26_1, ix39, ld22, ld26, ln39, st22, st26, specNeutral_eq, w1, w2, ei1, rd_ext fr1 q14.ext, fc1, fc2, ldA2 fc1 fc2, q14.rd 0 rfl, q14.rd 3 rfl]
    refine rW_loopQ (σ := Nat × (List Int × List Int) × (Option Addr × Nat) × (Option Addr × Nat)) q14 [0, 1, 6, 13] (fun x tm => tm 14 = .int .i64 ((x.1 : Int) - 1) ∧ x.1 < rs.length ∧ redL s (rs.drop x.1) = (x.2.1, 0) ∧ x.2.1.1.length ≤ 1048576 ∧ x.2.1.2.length ≤ 1048576) (fun x L => ((L.set 0 (.own (.box H11.length [.slice x.2.2.1.1 x.2.1.1.length x.2.2.1.2, .slice x.2.2.2.1 x.2.1.2.length x.2.2.2.2]))).set 1 (.own (.row (.slice x.2.2.1.1 x.2.1.1.length x.2.2.1.2) x.2.1.1))).set 2 (.own (.row (.slice x.2.2.2.1 x.2.1.2.length x.2.2.2.2) x.2.1.2))) (fun x => x.1) (n, rs[n], (a5, c5), (a6, c6)) ⟨rfl, by simp only; omega, by have := redL_last (s := s) hr1; simpa [hn] using this, (hrl _ (List.getElem_mem _)).1, (hrl _ (List.getElem_mem _)).2⟩ rfl ?_
    rintro ⟨k, ⟨S, D⟩, ⟨av, cv⟩, aw, cw⟩ tm2 H14 ⟨h6, h7, h8, h9, -⟩ ⟨ki, hk1, hred, hS1, hD1⟩ q15
    simp -implicitDefEqProofs only [kz, kk0, kk1, kk2, kk3, ↓two_true, ↓two_false, mkv, aggAt, Nat.reduceLeDiff, Nat.reduceSub, Nat.reduceMul, implies_true, Nat.reduceEqDiff, reduceIte, Nat.reduceAdd, Nat.reduceBEq, reduceCtorEq, al26, ap22_22, bd26, bs22_0, bs22_1, fa26_1, ix39, ld22, ld26, ln39, st22, st26, w1, w2, ei1, rd_ext fr1 q14.ext, fc1, fc2, ldA2 fc1 fc2] at h6 h7 h8 h9
    simp only [List.set_cons_zero, List.set_cons_succ] at q15
    simp only at ki hk1 hred hS1 hD1
    simp -implicitDefEqProofs only [kz, kk0, kk1, kk2, kk3, ↓two_true, ↓two_false, mkv, aggAt, Nat.reduceLeDiff, Nat.reduceSub, Nat.reduceMul, implies_true, Nat.reduceEqDiff, reduceIte, Nat.reduceAdd, Nat.reduceBEq, reduceCtorEq, al26, ap22_22, bd26, bs22_0, bs22_1, fa26_1, ix39, ld22, ld26, ln39, st22, st26, specNeutral_eq, w1, w2, ei1, rd_ext fr1 q15.ext, fc1, fc2, ldA2 fc1 fc2, h6, h7, h8, h9, ki, q15.rd 0 rfl, q15.rd 3 rfl]
    refine two_intro (fun u3 => ?_) (fun u3 => ?_)
    ·
      have hk : 0 ≤ (k : Int) - 1 := by simpa using u3
      obtain ⟨j, rfl⟩ : ∃ j, k = j + 1 := ⟨k - 1, by omega⟩
      have e1 : ((j + 1 : Nat) : Int) - 1 = (j : Int) := by omega
      have wj : IntKind.i64.wrap ((j : Int) - 1) = (j : Int) - 1 := IntWalk.i64_in _ (by omega)
      have hjn : j < rs.length := by omega
      obtain ⟨b2, o2, cs2, p5, p6, ei2, fr2, fc3, fc4, fi3, fi4⟩ := ixR r hjn
      obtain ⟨a7, c7, rfl, -⟩ := fi3.op
      obtain ⟨a8, c8, rfl, -⟩ := fi4.op
      try simp -implicitDefEqProofs only [kz, kk0, kk1, kk2, kk3, ↓two_true, ↓two_false, mkv, aggAt, Nat.reduceLeDiff, Nat.reduceSub, Nat.reduceMul, implies_true, Nat.reduceEqDiff, reduceIte, Nat.reduceAdd, Nat.reduceBEq, reduceCtorEq, al26, ap22_22, bd26, bs22_0, bs22_1, fa26_1, ix39, ld22, ld26, ln39, st22, st26, specNeutral_eq, w1, w2, ei1, rd_ext fr1 q15.ext, fc1, fc2, ldA2 fc1 fc2, ei2, rd_ext fr2 q15.ext, fc3, fc4, ldA2 fc3 fc4, h6, h7, h8, h9, ki, e1, wj, q15.rd 0 rfl, q15.rd 3 rfl]
      refine (specEachTwo_ok  (AR.mk (fi3.ext q15.ext) (fi4.ext q15.ext) (hrl _ (List.getElem_mem _)).1 (hrl _ (List.getElem_mem _)).2) (q15.ar 1 2 rfl rfl (by (try simp only [List.length_cons, List.length_nil, List.length_append, List.length_replicate, List.length_map, List.length_take, List.length_drop]); omega) (by (try simp only [List.length_cons, List.length_nil, List.length_append, List.length_replicate, List.length_map, List.length_take, List.length_drop]); omega))).mono ?_
      rintro _ H15 ⟨p7, p8, rfl, g2⟩
      obtain ⟨R1, hR1⟩ : ∃ R, each2R s rs[j].1 rs[j].2 S D = R := ⟨_, rfl⟩
      rw [hR1] at g2 ⊢
      have q16 := q15.join g2
      simp only [List.map_cons, List.map_nil, List.cons_append, List.nil_append] at q16
      obtain ⟨a9, c9, rfl⟩ := (q16.own 0 rfl).isSlice
      obtain ⟨a10, c10, rfl⟩ := (q16.own 1 rfl).isSlice
      obtain ⟨hl1, hl2⟩ := each2R_lim hR1
      simp -implicitDefEqProofs only [kz, kk0, kk1, kk2, kk3, ↓two_true, ↓two_false, mkv, aggAt, Nat.reduceLeDiff, Nat.reduceSub, Nat.reduceMul, implies_true, Nat.reduceEqDiff, reduceIte, Nat.reduceAdd, Nat.reduceBEq, reduceCtorEq, al26, ap22_22, bd26, bs22_0, bs22_1, fa26_1, ix39, ld22, ld26, ln39, st22, st26, specNeutral_eq, w1, w2, ei1, rd_ext fr1 q16.ext, fc1, fc2, ldA2 fc1 fc2, ei2, rd_ext fr2 q16.ext, fc3, fc4, ldA2 fc3 fc4, h6, h7, h8, h9, ki, e1, wj, q16.rd 2 rfl, q16.rd 5 rfl, q15.rd 0 rfl, q15.rd 3 rfl]
      refine st_box q16 fun H16 q17 => ?_
      simp -implicitDefEqProofs only [kz, kk0, kk1, kk2, kk3, ↓two_true, ↓two_false, mkv, aggAt, Nat.reduceLeDiff, Nat.reduceSub, Nat.reduceMul, implies_true, Nat.reduceEqDiff, reduceIte, Nat.reduceAdd, Nat.reduceBEq, reduceCtorEq, al26, ap22_22, bd26, bs22_0, bs22_1, fa26_1, ix39, ld22, ld26, ln39, st22, st26, specNeutral_eq, w1, w2, ei1, rd_ext fr1 q17.ext, fc1, fc2, ldA2 fc1 fc2, ei2, rd_ext fr2 q17.ext, fc3, fc4, ldA2 fc3 fc4, h6, h7, h8, h9, ki, e1, wj, q17.rd 0 rfl, q17.rd 3 rfl, q17.rd 6 rfl, q15.rd 0 rfl, q15.rd 3 rfl, q16.rd 2 rfl, q16.rd 5 rfl]
      refine st_set q17 0 rfl fun H17 q18 => ?_
      simp only [List.set_cons_zero, List.set_cons_succ] at q18
      simp -implicitDefEqProofs only [kz, kk0, kk1, kk2, kk3, ↓two_true, ↓two_false, mkv, aggAt, Nat.reduceLeDiff, Nat.reduceSub, Nat.reduceMul, implies_true, Nat.reduceEqDiff, reduceIte, Nat.reduceAdd, Nat.reduceBEq, reduceCtorEq, al26, ap22_22, bd26, bs22_0, bs22_1, fa26_1, ix39, ld22, ld26, ln39, st22, st26, specNeutral_eq, w1, w2, ei1, rd_ext fr1 q18.ext, fc1, fc2, ldA2 fc1 fc2, ei2, rd_ext fr2 q18.ext, fc3, fc4, ldA2 fc3 fc4, h6, h7, h8, h9, ki, e1, wj, q18.rd 0 rfl, q18.rd 3 rfl, q18.rd 6 rfl, q15.rd 0 rfl, q15.rd 3 rfl, q16.rd 2 rfl, q16.rd 5 rfl, q17.rd 0 rfl, q17.rd 3 rfl, q17.rd 6 rfl]
      try simp -implicitDefEqProofs only [kz, kk0, kk1, kk2, kk3, ↓two_true, ↓two_false, mkv, aggAt, Nat.reduceLeDiff, Nat.reduceSub, Nat.reduceMul, implies_true, Nat.reduceEqDiff, reduceIte, Nat.reduceAdd, Nat.reduceBEq, reduceCtorEq, al26, ap22_22, bd26, bs22_0, bs22_1, fa26_1, ix39, ld22, ld26, ln39, st22, st26, specNeutral_eq, w1, w2, ei1, rd_ext fr1 q18.ext, fc1, fc2, ldA2 fc1 fc2, ei2, rd_ext fr2 q18.ext, fc3, fc4, ldA2 fc3 fc4, h6, h7, h8, h9, ki, e1, wj, q18.rd 0 rfl, q18.rd 3 rfl, q18.rd 6 rfl]
      refine two_intro (fun u4 => ?_) (fun u4 => ?_)
      ·
        have hne : R1.2 ≠ 0 := by simpa using u4
        have hst := redL_drop (s := s) (rs := rs) (k := j) hk1
        rw [hred] at hst
        unfold redS at hst
        rw [if_pos rfl, hR1] at hst
        have hfin := redL_err (s := s) hjn (by rw [hst]; exact hne)
        rw [hst] at hfin
        have h12 := each2R_err (s := s) (sa := rs[j].1) (da := rs[j].2) (sb := S) (db := D) (by rw [hR1]; exact hne)
        rw [hR1] at h12
        try simp -implicitDefEqProofs only [kz, kk0, kk1, kk2, kk3, ↓two_true, ↓two_false, mkv, aggAt, Nat.reduceLeDiff, Nat.reduceSub, Nat.reduceMul, implies_true, Nat.reduceEqDiff, reduceIte, Nat.reduceAdd, Nat.reduceBEq, reduceCtorEq, al26, ap22_22, bd26, bs22_0, bs22_1, fa26_1, ix39, ld22, ld26, ln39, st22, st26, specNeutral_eq, w1, w2, ei1, rd_ext fr1 q18.ext, fc1, fc2, ldA2 fc1 fc2, ei2, rd_ext fr2 q18.ext, fc3, fc4, ldA2 fc3 fc4, h6, h7, h8, h9, ki, e1, wj, q18.rd 0 rfl, q18.rd 3 rfl, q18.rd 6 rfl]
        refine st_set q18 6 rfl fun H18 q19 => ?_
        simp only [List.set_cons_zero, List.set_cons_succ] at q19
        simp -implicitDefEqProofs only [kz, kk0, kk1, kk2, kk3, ↓two_true, ↓two_false, mkv, aggAt, Nat.reduceLeDiff, Nat.reduceSub, Nat.reduceMul, implies_true, Nat.reduceEqDiff, reduceIte, Nat.reduceAdd, Nat.reduceBEq, reduceCtorEq, al26, ap22_22, bd26, bs22_0, bs22_1, fa26_1, ix39, ld22, ld26, ln39, st22, st26, specNeutral_eq, w1, w2, ei1, rd_ext fr1 q19.ext, fc1, fc2, ldA2 fc1 fc2, ei2, rd_ext fr2 q19.ext, fc3, fc4, ldA2 fc3 fc4, h6, h7, h8, h9, ki, e1, wj, q19.rd 0 rfl, q19.rd 3 rfl, q19.rd 6 rfl]
        -- end2
        exact q19.err (by unfold redR; rw [if_neg hr0, hfin]; exact Prod.ext h12 rfl)
      ·
        have hz : R1.2 = 0 := by simpa using u4
        have hst := redL_drop (s := s) (rs := rs) (k := j) hk1
        rw [hred] at hst
        unfold redS at hst
        rw [if_pos rfl, hR1] at hst
        try simp -implicitDefEqProofs only [kz, kk0, kk1, kk2, kk3, ↓two_true, ↓two_false, mkv, aggAt, Nat.reduceLeDiff, Nat.reduceSub, Nat.reduceMul, implies_true, Nat.reduceEqDiff, reduceIte, Nat.reduceAdd, Nat.reduceBEq, reduceCtorEq, al26, ap22_22, bd26, bs22_0, bs22_1, fa26_1, ix39, ld22, ld26, ln39, st22, st26, specNeutral_eq, w1, w2, ei1, rd_ext fr1 q18.ext, fc1, fc2, ldA2 fc1 fc2, ei2, rd_ext fr2 q18.ext, fc3, fc4, ldA2 fc3 fc4, h6, h7, h8, h9, ki, e1, wj, q18.rd 0 rfl, q18.rd 3 rfl, q18.rd 6 rfl]
        refine st_set q18 3 rfl fun H19 q20 => ?_
        simp only [List.set_cons_zero, List.set_cons_succ] at q20
        simp -implicitDefEqProofs only [kz, kk0, kk1, kk2, kk3, ↓two_true, ↓two_false, mkv, aggAt, Nat.reduceLeDiff, Nat.reduceSub, Nat.reduceMul, implies_true, Nat.reduceEqDiff, reduceIte, Nat.reduceAdd, Nat.reduceBEq, reduceCtorEq, al26, ap22_22, bd26, bs22_0, bs22_1, fa26_1, ix39, ld22, ld26, ln39, st22, st26, specNeutral_eq, w1, w2, ei1, rd_ext fr1 q20.ext, fc1, fc2, ldA2 fc1 fc2, ei2, rd_ext fr2 q20.ext, fc3, fc4, ldA2 fc3 fc4, h6, h7, h8, h9, ki, e1, wj, q20.rd 0 rfl, q20.rd 3 rfl, q20.rd 6 rfl]
        -- back loop2
        refine ⟨(j, R1.1, (a9, c9), (a10, c10)), (by simp only; omega), ⟨rfl, rfl, rfl, rfl, trivial⟩, ⟨rfl, by simp only; omega, by simp only; rw [hst]; exact Prod.ext rfl hz, by simp only; omega, by simp only; omega⟩, ?_⟩
        simp only [List.set_cons_zero, List.set_cons_succ]
        exact q20.pick [3, 1, 2, 6] _ rfl (by decide)
    ·
      have hk0 : k = 0 := by have : ¬ (0 : Int) ≤ (k : Int) - 1 := (by simpa using u3); omega
      subst hk0
      rw [List.drop_zero] at hred
      try simp -implicitDefEqProofs only [kz, kk0, kk1, kk2, kk3, ↓two_true, ↓two_false, mkv, aggAt, Nat.reduceLeDiff, Nat.reduceSub, Nat.reduceMul, implies_true, Nat.reduceEqDiff, reduceIte, Nat.reduceAdd, Nat.reduceBEq, reduceCtorEq, al26, ap22_22, bd26, bs22_0, bs22_1, fa26_1, ix39, ld22, ld26, ln39, st22, st26, specNeutral_eq, w1, w2, ei1, rd_ext fr1 q15.ext, fc1, fc2, ldA2 fc1 fc2, h6, h7, h8, h9, ki, q15.rd 0 rfl, q15.rd 3 rfl]
      refine st_set q15 3 rfl fun H20 q21 => ?_
      simp only [List.set_cons_zero, List.set_cons_succ] at q21
      simp -implicitDefEqProofs only [kz, kk0, kk1, kk2, kk3, ↓two_true, ↓two_false, mkv, aggAt, Nat.reduceLeDiff, Nat.reduceSub, Nat.reduceMul, implies_true, Nat.reduceEqDiff, reduceIte, Nat.reduceAdd, Nat.reduceBEq, reduceCtorEq, al26, ap22_22, bd26, bs22_0, bs22_1, fa26_1, ix39, ld22, ld26, ln39, st22, st26, specNeutral_eq, w1, w2, ei1, rd_ext fr1 q21.ext, fc1, fc2, ldA2 fc1 fc2, h6, h7, h8, h9, ki, q21.rd 0 rfl, q21.rd 3 rfl]
      -- end3
      exact q21.ans 1 2 (by decide) rfl rfl (by unfold redR; rw [if_neg hr0]; exact hred)

def reduceR (s : Int) (sa da : List Int) : (List Int × List Int) × Int := if (arrOk sa da && sg2 s) = true then (if sa.length = 0 then ((sa, da), 0) else redR s (rowsR sa da) sa.tail) else (([], []), 1)
/-- What is gathered of a scan. -/
def scanL (s : Int) (rs : List (List Int × List Int)) (k : Nat) : List (List Int × List Int) := (List.range k).map fun i => (redL s (rs.take (i + 1))).1
def scanC (s : Int) (rs : List (List Int × List Int)) : Int := firstC ((List.range rs.length).map fun i => (redL s (rs.take (i + 1))).2)
def scanR (s : Int) (sa da : List Int) : (List Int × List Int) × Int :=
  if (arrOk sa da && sg2 s) = true then (if sa.length = 0 then ((sa, da), 0) else if (rowsR sa da).length = 0 then ((sa, da), 0) else if scanC s (rowsR sa da) = 0 then ((((rowsR sa da).length : Int) :: sa.tail, flatD (scanL s (rowsR sa da) (rowsR sa da).length)), 0) else (([], []), scanC s (rowsR sa da))) else (([], []), 1)
theorem scanL_step {s : Int} {rs : List (List Int × List Int)} {k : Nat} : scanL s rs (k + 1) = scanL s rs k ++ [(redL s (rs.take (k + 1))).1] := by
  unfold scanL; rw [List.range_succ, List.map_append, List.map_cons, List.map_nil]
theorem scanL_len {s : Int} {rs : List (List Int × List Int)} {k : Nat} : (scanL s rs k).length = k := by simp [scanL]
/-- All rows of an array that is right: how long they are. -/
theorem rowsR_lim {sa da : List Int} (h : arrOk sa da = true) (hne : sa.length ≠ 0) : (rowsR sa da).length ≤ 300 ∧ ((rowsR sa da).length : Int) = sa.headD 0 ∧ (∀ r ∈ rowsR sa da, r.1 = sa.tail ∧ r.1.length ≤ 3 ∧ (r.2.length : Int) = sizeI sa.tail ∧ r.2.length ≤ 300 ∧ r.2.all numOk = true) := by
  have hne' : sa ≠ [] := by rintro rfl; exact hne rfl
  have h1 := rowsR_len' h hne'
  refine ⟨?_, h1, fun r hr => ?_⟩
  · obtain ⟨x, tl, e⟩ := List.exists_cons_of_ne_nil hne'
    rw [e] at h h1
    obtain ⟨n, e2, hn, _⟩ := arrOk_rows h
    rw [e]
    rw [rowsR_len e2]; exact hn
  · obtain ⟨i, hi, e⟩ := List.mem_iff_getElem.1 hr
    obtain ⟨e1, e2, e3, e4, e5⟩ := rowsR_row h (List.getElem?_eq_getElem hi)
    rw [e] at e1 e3 e4 e5
    refine ⟨e1, ?_, e3, e5, e4⟩
    rw [e1]
    exact (sizeI_ok e2).1
theorem redL_rows {s : Int} {rs : List (List Int × List Int)} {sh : List Int} {m : Nat} (hr : ∀ r ∈ rs, r.1 = sh ∧ r.2.length = m ∧ r.2.all numOk = true) (hm : sizeI sh = m) (h0 : 0 < rs.length) (hz : (redL s rs).2 = 0) : (redL s rs).1.1 = sh ∧ (redL s rs).1.2.length = m ∧ (redL s rs).1.2.all numOk = true := by
  induction rs with
  | nil => simp at h0
  | cons r rs ih =>
    cases rs with
    | nil => exact hr r (List.mem_singleton.2 rfl)
    | cons r2 rs =>
      simp only [redL] at hz ⊢
      unfold redS at hz ⊢
      by_cases h1 : (redL s (r2 :: rs)).2 = 0
      · rw [if_pos h1] at hz ⊢
        obtain ⟨_, _, _, k1, _, _, k2, k3⟩ := each2R_ok rfl hz
        obtain ⟨i1, i2, i3⟩ := ih (fun r hr' => hr r (List.mem_cons_of_mem _ hr')) (by simp) h1
        have e0 := hr r (List.mem_cons_self)
        have hS : (each2R s r.1 r.2 (redL s (r2 :: rs)).1.1 (redL s (r2 :: rs)).1.2).1.1 = sh := by
          rcases fitR_cases k2 with ⟨_, _, _, h4⟩ | ⟨_, h4, _⟩
          · obtain ⟨c1, _⟩ := h4 rfl
            rcases c1 with ⟨_, e⟩ | e
            · rw [e, i1]
            · rw [e, e0.1]
          · exact absurd h4 (by decide)
        refine ⟨hS, ?_, ?_⟩
        · have := (arrOk_size k1).1
          rw [hS, hm] at this
          omega
        · unfold arrOk at k1
          simp only [Bool.and_eq_true] at k1
          exact k1.2
      · rw [if_neg h1] at hz
        exact absurd hz h1

end Go.Proofs.Ytmlimgdpcoloiaa.AM
