/- What the functions answer, part 2. -/
import Derived.Test.YtockhdhilemfkaaP1
set_option linter.unusedVariables false
set_option linter.unusedSimpArgs false
set_option linter.defProp false
set_option maxRecDepth 100000
/- What the functions answer, part 2. -/
namespace Go.Proofs.Ytockhdhilemfkaa.AM
open Go Go.Proofs.Ytockhdhilemfkaa Go.Proofs
theorem specOuter_ok {H : AH} {s : Int} {pa qa pb qb : Value} {sa da sb db : List Int} (h1 : IntRow H pa sa) (h2 : IntRow H qa da) (h3 : IntRow H pb sb) (h4 : IntRow H qb db) (l1 : sa.length ≤ 1048576) (l2 : da.length ≤ 1048576) (l3 : sb.length ≤ 1048576) (l4 : db.length ≤ 1048576) :
    CallsA Try.prog 54 #[.int .i64 s, .agg #[pa, qa], .agg #[pb, qb]] H fun r H' => ARes H H' r (outR s sa da sb db) := by
  obtain ⟨a1, c1, rfl, g1⟩ := h1.op
  obtain ⟨a2, c2, rfl, g2⟩ := h2.op
  obtain ⟨a3, c3, rfl, g3⟩ := h3.op
  obtain ⟨a4, c4, rfl, g4⟩ := h4.op
  refine w54 ?_
  unfold k54
  simp -implicitDefEqProofs only [kz, kk0, kk1, kk2, kk3, ↓two_true, ↓two_false, oS_some, oM_some, mkv, aggAt, Nat.reduceLeDiff, Nat.reduceSub, Nat.reduceMul, implies_true, Nat.reduceEqDiff, reduceIte, Nat.reduceAdd, Nat.reduceBEq, reduceCtorEq, al26, ap24_24, bd26, bs24_0, bs24_1, fa26_0, fa26_1, ix24, ld3, ld24, ld26, ln24, st24, st26]
  refine oA_own (l := []) (OwnRow.at0 (cs := []) (by rw [gti]; rfl)) h1.mono (by simp; omega) fun xa0 xc0 H1 ho0 x1 => ?_
  simp only [List.length_nil, Nat.zero_add, List.nil_append] at ho0 x1 ⊢
  have he0 := x1.ext (H0 := H) ⟨_, rfl⟩ (by intro b hb; simp [blkOf] at hb; omega)
  have b0 := x1.at (b := H.length) (by rw [gt0]; rfl) (by simp [blkOf])
  have b1 := x1.at (b := H.length + 1) (by rw [gti]; rfl) (by simp [blkOf])
  have b2 := x1.at (b := H.length + 2) (by rw [gti]; rfl) (by simp [blkOf])
  have b3 := x1.at (b := H.length + 3) (by rw [gti]; rfl) (by simp [blkOf])
  have hf0 : ∀ b, blkOf (.slice xa0 sa.length xc0) = some b → H.length + 4 ≤ b := fun b hb => by
    rcases x1.new b hb with h | h
    · simp [blkOf] at h; omega
    · simp at h; omega
  have hl0 := x1.len
  simp only [List.length_append, List.length_cons, List.length_nil] at hl0
  clear x1
  simp -implicitDefEqProofs only [kz, kk0, kk1, kk2, kk3, ↓two_true, ↓two_false, oS_some, oM_some, mkv, aggAt, Nat.reduceLeDiff, Nat.reduceSub, Nat.reduceMul, implies_true, Nat.reduceEqDiff, reduceIte, Nat.reduceAdd, Nat.reduceBEq, reduceCtorEq, al26, ap24_24, bd26, bs24_0, bs24_1, fa26_0, fa26_1, ix24, ld3, ld24, ld26, ln24, st24, st26, rd_own b1]
  refine oA_own ho0 (h3.ext he0) (by omega) fun xa xc H1' ho x1 => ?_
  have hne : ∀ b, b < H.length + 4 → blkOf (.slice xa0 sa.length xc0) ≠ some b := fun b hb e => by have := hf0 b e; omega
  have he1 := x1.ext he0 (fun b hb => by have := hf0 b hb; omega)
  have b0 := x1.at b0 (hne _ (by omega))
  have b1 := x1.at b1 (hne _ (by omega))
  have b2 := x1.at b2 (hne _ (by omega))
  have b3 := x1.at b3 (hne _ (by omega))
  have hf : ∀ b, blkOf (.slice xa (sa.length + sb.length) xc) = some b → H.length + 4 ≤ b := fun b hb => (x1.new b hb).elim (hf0 b) fun h => by omega
  have hl1 : H.length + 4 ≤ H1'.length := by have := x1.len; omega
  clear x1 ho0 hf0 hne
  generalize H1' = H1 at *
  have ea := fun (L : AH) Φ => (specArrayOk_ok (H := H1 ++ L) ((h1.ext he1).mono (L := L)) ((h2.ext he1).mono (L := L)) (by omega) (by omega)).eqV (Φ := Φ)
  have eb := fun (L : AH) Φ => (specArrayOk_ok (H := H1 ++ L) ((h3.ext he1).mono (L := L)) ((h4.ext he1).mono (L := L)) (by omega) (by omega)).eqV (Φ := Φ)
  have es := fun (L : AH) Φ => (specShapeOk_ok (H := H1 ++ L) (ho.int.mono (L := L)) (by simp; omega)).eq0 (Φ := Φ)
  have r0 := rd_own b0
  have r1 := rd_own b1
  have q0 := fun L => rd_own (gtl (L := L) b0)
  have q1 := fun L => rd_own (gtl (L := L) b1)
  have q2 := fun L => wrt_own (gtl (L := L) b2)
  have q3 := fun (L : AH) (k : List Value) => rd_own (cs := k) (set_at (k' := ⟨k, .own⟩) (gtl (L := L) b2))
  have q4 := fun L => rd_own (gtl (L := L) b3)
  have fail : ∀ (L : AH) (k : Blk) (c : Int), ARes H ((H1 ++ L).set (H.length + 2) k) (.tuple #[.agg #[.slice none 0 0, .slice none 0 0], .int .i64 c]) (([], []), c) := fun L k c => ARes.nil (set_ext (app_ext he1) (by omega))
  unfold outR
  simp -implicitDefEqProofs only [kz, kk0, kk1, kk2, kk3, ↓two_true, ↓two_false, oS_some, oM_some, mkv, aggAt, Nat.reduceLeDiff, Nat.reduceSub, Nat.reduceMul, implies_true, Nat.reduceEqDiff, reduceIte, Nat.reduceAdd, Nat.reduceBEq, reduceCtorEq, al26, ap24_24, bd26, bs24_0, bs24_1, fa26_0, fa26_1, ix24, ld3, ld24, ld26, ln24, st24, st26, ea, eb, es, l1Sign2_eq, r0, r1, q0, q1, q2, q3, q4]
  refine two_intro (fun u1 => ?_) (fun u1 => ?_)
  · rw [show arrOk sa da = false from by have h := u1; change (!arrOk sa da) = true at h; simpa using h]
    exact fail _ _ _
  · have v1 : arrOk sa da = true := by have h := u1; change (!arrOk sa da) = false at h; simpa using h
    rw [v1]
    refine two_intro (fun u2 => ?_) (fun u2 => ?_)
    · rw [show arrOk sb db = false from by have h := u2; change (!arrOk sb db) = true at h; simpa using h]
      exact fail _ _ _
    · have v2 : arrOk sb db = true := by have h := u2; change (!arrOk sb db) = false at h; simpa using h
      rw [v2]
      refine two_intro (fun u3 => ?_) (fun u3 => ?_)
      · rw [show sg2 s = false by simpa using u3]
        exact fail _ _ _
      · rw [show sg2 s = true by simpa using u3]
        refine two_intro (fun u4 => ?_) (fun u4 => ?_)
        · rw [if_pos (by rfl), if_pos (by simp at u4 ⊢; omega)]
          exact fail _ _ _
        · refine two_intro (fun u5 => ?_) (fun u5 => ?_)
          · rw [if_pos (by rfl), if_neg (by simp at u4 ⊢; omega), if_neg (by simpa using u5)]
            exact fail _ _ _
          · rw [if_pos (by rfl), if_neg (by simp at u4 ⊢; omega), if_pos (by simpa using u5)]
            have n2 := arrOk_len v1
            have n4 := arrOk_len v2
            generalize hbx : ([(H.length, ⟨[.slice a1 sa.length c1, .slice a2 da.length c2], .own⟩), (H.length + 1, ⟨[.slice a3 sb.length c3, .slice a4 db.length c4], .own⟩), (H.length + 2, ⟨[.slice none 0 0, .slice none 0 0], .own⟩), (H.length + 3, ⟨[.slice none 0 0, .slice none 0 0], .own⟩)] : List (Nat × Blk)) = bx
            have hget : ∀ {H' : AH} {a' : Option Addr} {c' : Nat} {l : List Int}, Gro H bx H1.length (.slice xa (sa.length + sb.length) xc) (sa ++ sb) a' c' l H' → H'[H.length]? = some ⟨[.slice a1 sa.length c1, .slice a2 da.length c2], .own⟩ ∧ H'[H.length + 1]? = some ⟨[.slice a3 sb.length c3, .slice a4 db.length c4], .own⟩ ∧ H'[H.length + 2]? = some ⟨[.slice none 0 0, .slice none 0 0], .own⟩ ∧ H'[H.length + 3]? = some ⟨[.slice none 0 0, .slice none 0 0], .own⟩ := by
              intro H' a' c' l g
              rw [← hbx] at g
              exact ⟨(g.bs (H.length, ⟨[.slice a1 sa.length c1, .slice a2 da.length c2], .own⟩) (by simp)).1, (g.bs (H.length + 1, ⟨[.slice a3 sb.length c3, .slice a4 db.length c4], .own⟩) (by simp)).1, (g.bs (H.length + 2, ⟨[.slice none 0 0, .slice none 0 0], .own⟩) (by simp)).1, (g.bs (H.length + 3, ⟨[.slice none 0 0, .slice none 0 0], .own⟩) (by simp)).1⟩
            refine rW_loop (σ := Nat × Option Addr × Nat) (fun (i, a', c') tm H' => tm 0 = .int .i64 s ∧ tm 4 = .pointer (some ⟨H.length, 0, none⟩) ∧ tm 5 = .pointer (some ⟨H.length + 1, 0, none⟩) ∧ tm 6 = .pointer (some ⟨H.length + 2, 0, none⟩) ∧ tm 8 = .pointer (some ⟨H.length + 3, 0, none⟩) ∧ tm 9 = .pointer (some ⟨H1.length, 0, none⟩) ∧ tm 10 = .int .i64 i ∧ i ≤ da.length ∧
              Gro H bx H1.length (.slice xa (sa.length + sb.length) xc) (sa ++ sb) a' c' (outA s da db i 0) H' ∧ (∀ u ∈ da.take i, ∀ w ∈ db, (twoF s u w).2 = 0)) (fun s => da.length - s.1) (0, none, 0) ?_ ?_
            · simp -implicitDefEqProofs [kk0, kk1, kk2, kk3, rW_block, ↓two_true, ↓two_false, rW_cond, rO_guard, oS_some, oM_some, mkv, aggAt, Nat.reduceLeDiff, Nat.reduceSub, Nat.reduceMul, cond_true, cond_false, Option.bind_some, List.length_append, List.length_cons, List.length_nil, List.append_assoc, List.cons_append, List.nil_append, List.set_cons_zero, List.set_cons_succ, List.size_toArray, List.all_cons, List.all_nil, List.drop_zero, List.drop_succ_cons, List.take_succ_cons, List.take_zero, List.mem_cons, Prod.mk.injEq, List.not_mem_nil, implies_true, List.getElem?_toArray, List.getElem?_cons_zero, List.getElem?_cons_succ, List.getElem?_nil, Option.getD_some, Option.getD_none, Nat.reduceEqDiff, reduceIte, Nat.reduceAdd, List.map_toArray, List.map_cons, List.map_nil, Bool.false_eq_true, Nat.reduceBEq, Option.map_some, Option.map_none, reduceCtorEq, al26, ap24_24, bd26, bs24_0, bs24_1, fa26_0, fa26_1, ix24, ld3, ld24, ld26, ln24, st24, st26]
              have : outA s da db 0 0 = [] := by rw [outA_zero]; rfl
              rw [this]
              refine ⟨?_, by rw [gt0]; rfl, ho.mono, OwnRow.nil, fun b hb => by simp [blkOf] at hb, fun b hb => ?_, by omega, app_ext he1⟩
              · rw [← hbx]
                intro x hx
                simp only [List.mem_cons, List.not_mem_nil, or_false] at hx
                rcases hx with rfl | rfl | rfl | rfl
                · exact ⟨gtl b0, by simp only; omega⟩
                · exact ⟨gtl b1, by simp only; omega⟩
                · exact ⟨gtl b2, by simp only; omega⟩
                · exact ⟨gtl b3, by simp only; omega⟩
              · have x1 := hf b hb
                have x2 := ho.lt b hb
                refine ⟨by omega, x2, ?_⟩
                rw [← hbx]
                intro x hx
                simp only [List.mem_cons, List.not_mem_nil, or_false] at hx
                rcases hx with rfl | rfl | rfl | rfl <;> simp only <;> omega
            · rintro ⟨i, a', c'⟩ tm H2 ⟨t0, t4, t5, t6, t8, t9, t10, hi, hg, hz⟩
              obtain ⟨gb0, gb1, gb2, gb3⟩ := hget hg
              simp -implicitDefEqProofs only [kz, kk0, kk1, kk2, kk3, ↓two_true, ↓two_false, oS_some, oM_some, mkv, aggAt, Nat.reduceLeDiff, Nat.reduceSub, Nat.reduceMul, implies_true, Nat.reduceEqDiff, reduceIte, Nat.reduceAdd, Nat.reduceBEq, reduceCtorEq, al26, ap24_24, bd26, bs24_0, bs24_1, fa26_0, fa26_1, ix24, ld3, ld24, ld26, ln24, st24, st26, t0, t4, t5, t6, t8, t9, t10, rd_own gb0]
              refine two_intro (fun hc => ?_) (fun hc => ?_)
              · have hlt : i < da.length := by simpa using hc
                obtain ⟨b, o, cs, rfl, rfl, hrd, _, hcell⟩ := g2 (by omega)
                have hx : da[i]? = some da[i] := List.getElem?_eq_getElem hlt
                generalize hxx : da[i] = x at hx
                have hcx := hcell i hlt
                rw [hxx] at hcx
                refine rW_loop (σ := Nat × Option Addr × Nat) (fun (k, a', c') tm H' => tm 0 = .int .i64 s ∧ tm 4 = .pointer (some ⟨H.length, 0, none⟩) ∧ tm 5 = .pointer (some ⟨H.length + 1, 0, none⟩) ∧ tm 6 = .pointer (some ⟨H.length + 2, 0, none⟩) ∧ tm 8 = .pointer (some ⟨H.length + 3, 0, none⟩) ∧ tm 9 = .pointer (some ⟨H1.length, 0, none⟩) ∧ tm 10 = .int .i64 i ∧ tm 11 = .int .i64 k ∧ k ≤ db.length ∧
                  Gro H bx H1.length (.slice xa (sa.length + sb.length) xc) (sa ++ sb) a' c' (outA s da db i k) H' ∧ (∀ w ∈ db.take k, (twoF s x w).2 = 0)) (fun s => db.length - s.1) (0, a', c') ?_ ?_
                · simp -implicitDefEqProofs [kk0, kk1, kk2, kk3, rW_block, ↓two_true, ↓two_false, rW_cond, rO_guard, oS_some, oM_some, mkv, aggAt, Nat.reduceLeDiff, Nat.reduceSub, Nat.reduceMul, cond_true, cond_false, Option.bind_some, List.length_append, List.length_cons, List.length_nil, List.append_assoc, List.cons_append, List.nil_append, List.set_cons_zero, List.set_cons_succ, List.size_toArray, List.all_cons, List.all_nil, List.drop_zero, List.drop_succ_cons, List.take_succ_cons, List.take_zero, List.mem_cons, Prod.mk.injEq, List.not_mem_nil, implies_true, List.getElem?_toArray, List.getElem?_cons_zero, List.getElem?_cons_succ, List.getElem?_nil, Option.getD_some, Option.getD_none, Nat.reduceEqDiff, reduceIte, Nat.reduceAdd, List.map_toArray, List.map_cons, List.map_nil, Bool.false_eq_true, Nat.reduceBEq, Option.map_some, Option.map_none, reduceCtorEq, al26, ap24_24, bd26, bs24_0, bs24_1, fa26_0, fa26_1, ix24, ld3, ld24, ld26, ln24, st24, st26, t0, t4, t5, t6, t8, t9, t10]
                  exact hg
                · clear t0 t4 t5 t6 t8 t9 t10 hg gb0 gb1 gb2 gb3
                  rintro ⟨k, a', c'⟩ tm H3 ⟨t0, t4, t5, t6, t8, t9, t10, t11, hk, hg, hzk⟩
                  obtain ⟨gb0, gb1, gb2, gb3⟩ := hget hg
                  simp -implicitDefEqProofs only [kz, kk0, kk1, kk2, kk3, ↓two_true, ↓two_false, oS_some, oM_some, mkv, aggAt, Nat.reduceLeDiff, Nat.reduceSub, Nat.reduceMul, implies_true, Nat.reduceEqDiff, reduceIte, Nat.reduceAdd, Nat.reduceBEq, reduceCtorEq, al26, ap24_24, bd26, bs24_0, bs24_1, fa26_0, fa26_1, ix24, ld3, ld24, ld26, ln24, st24, st26, t0, t4, t5, t6, t8, t9, t10, t11, rd_own gb1]
                  refine two_intro (fun hc2 => ?_) (fun hc2 => ?_)
                  · have hlk : k < db.length := by simpa using hc2
                    obtain ⟨b', o', cs', rfl, rfl, hrd', _, hcell'⟩ := g4 (by omega)
                    have hrd2 := rd_ext hrd hg.ext
                    have hrd3 := rd_ext hrd' hg.ext
                    have hy : db[k]? = some db[k] := List.getElem?_eq_getElem hlk
                    generalize hyy : db[k] = y at hy
                    have hcy := hcell' k hlk
                    rw [hyy] at hcy
                    have e2 := rd_own hg.out
                    have et := fun Φ => (specTwo_ok s x y H3).eq0 (Φ := Φ)
                    have e3 := wrt_own gb2
                    have e4 := rd_own (set_at (k' := ⟨[.slice none 0 0, .slice none 0 0], .own⟩) gb2)
                    simp -implicitDefEqProofs only [kz, kk0, kk1, kk2, kk3, ↓two_true, ↓two_false, oS_some, oM_some, mkv, aggAt, Nat.reduceLeDiff, Nat.reduceSub, Nat.reduceMul, implies_true, Nat.reduceEqDiff, reduceIte, Nat.reduceAdd, Nat.reduceBEq, reduceCtorEq, al26, ap24_24, bd26, bs24_0, bs24_1, fa26_0, fa26_1, ix24, ld3, ld24, ld26, ln24, st24, st26, t0, t4, t5, t6, t8, t9, t10, t11, Int.toNat_natCast, Nat.mul_one, hrd2, hrd3, hcx, hcy, et, e2, e3, e4, rd_own gb0, rd_own gb1, rd_own gb3]
                    refine ⟨⟨by omega, by omega⟩, ⟨by omega, by omega⟩, two_intro (fun h => ?_) (fun h => ?_)⟩
                    · have hc3 : (twoF s x y).2 ≠ 0 := by simpa using h
                      have hcc := outC_fail hx hy hz hzk hc3
                      rw [hcc, if_neg hc3]
                      exact ARes.nil (set_ext hg.ext (by omega))
                    · have hc3 : (twoF s x y).2 = 0 := by simpa using h
                      have hll := outA_len (s := s) (i := i) (k := k) n2 n4
                      refine oA_own hg.od.mono intRow1 (by simp; omega) fun a6 c6 H5 o6 x7 => ?_
                      obtain ⟨p1, p2, p3⟩ := hg.mono.push o6 x7
                      rw [← outA_step hx hy] at p3
                      have e6 := wrt_own p1
                      simp -implicitDefEqProofs only [kz, kk0, kk1, kk2, kk3, ↓two_true, ↓two_false, oS_some, oM_some, mkv, aggAt, Nat.reduceLeDiff, Nat.reduceSub, Nat.reduceMul, implies_true, Nat.reduceEqDiff, reduceIte, Nat.reduceAdd, Nat.reduceBEq, reduceCtorEq, al26, ap24_24, bd26, bs24_0, bs24_1, fa26_0, fa26_1, ix24, ld3, ld24, ld26, ln24, st24, st26, t0, t4, t5, t6, t8, t9, t10, t11, e6, IntWalk.i64_in (↑k + 1) (by omega)]
                      simp only [List.length_cons, List.length_nil, Nat.zero_add] at p3
                      exact ⟨(k + 1, a6, c6), by simp only; omega, by simp, hlk, p3, fun w hw => (take_mem_succ hy hw).elim (hzk w) fun e => by rw [e]; exact hc3⟩
                  · have hkl : k = db.length := by have : ¬ k < db.length := by simpa using hc2
                                                   omega
                    subst hkl
                    rw [outA_next hx] at hg
                    rw [List.take_length] at hzk
                    rw [IntWalk.i64_in (↑i + 1) (by omega)]
                    exact ⟨(i + 1, a', c'), by simp only; omega, by simp, hlt, hg, fun u hu w hw => (take_mem_succ hx hu).elim (fun h => hz u h w hw) fun e => by rw [e]; exact hzk w hw⟩
              · have hil : i = da.length := by have : ¬ i < da.length := by simpa using hc
                                               omega
                subst hil
                rw [List.take_length] at hz
                rw [outA_zero, List.take_length] at hg
                have e2 := rd_own hg.out
                have e3 := wrt_own gb2
                have e4 := rd_own (set_at (k' := ⟨[.slice xa (sa.length + sb.length) xc, .slice a' (outD s da db).length c'], .own⟩) gb2)
                simp -implicitDefEqProofs only [kz, kk0, kk1, kk2, kk3, ↓two_true, ↓two_false, oS_some, oM_some, mkv, aggAt, Nat.reduceLeDiff, Nat.reduceSub, Nat.reduceMul, implies_true, Nat.reduceEqDiff, reduceIte, Nat.reduceAdd, Nat.reduceBEq, reduceCtorEq, al26, ap24_24, bd26, bs24_0, bs24_1, fa26_0, fa26_1, ix24, ld3, ld24, ld26, ln24, st24, st26, t6, t9, e2, e3, e4]
                rw [outC_zero hz, if_pos rfl]
                have hns : ∀ b, b < H.length + 4 → blkOf (.slice xa (sa.length + sb.length) xc) ≠ some b := fun b hb e => by have := hf b e; omega
                have hr := hg.aown (b := H.length + 2) (k := ⟨[.slice xa (sa.length + sb.length) xc, .slice a' (outD s da db).length c'], .own⟩) (by omega) (hns _ (by omega)) (by omega)
                have hsl : sa.length + sb.length = (sa ++ sb).length := by simp
                rw [hsl] at hr ⊢
                exact ⟨⟨xa, xc, a', c', rfl, hr.1⟩, hr.2⟩
/-- Bytes that may be read. -/
def BRow (H : AH) (a : Option Addr) (n c : Nat) : Prop := 0 < n → ∃ b o cs, a = some ⟨b, o, none⟩ ∧ c = 1 ∧ H[b]? = some ⟨cs, .ro⟩ ∧ ∀ j, j < n → ∃ v : Int, cs[o + j]? = some (.int .u8 v) ∧ 0 ≤ v ∧ v ≤ 255
/-- A cursor. -/
def Cur (H : AH) (cb : Nat) : Prop := ∃ (a : Option Addr) (n c i : Nat) (h : Int), H[cb]? = some ⟨[.slice a n c, .int .i64 i, .int .i64 h], .own⟩ ∧ i ≤ n ∧ n ≤ 1048576 ∧ BRow H a n c
structure Frm (cb : Nat) (H H' : AH) : Prop where
  len : H.length ≤ H'.length
  keep : ∀ b, b < H.length → b ≠ cb → H'[b]? = H[b]?
  cur : Cur H' cb
theorem BRow.keep {H H' : AH} {a : Option Addr} {n c cb : Nat} (h : BRow H a n c) (hk : ∀ b, b < H.length → b ≠ cb → H'[b]? = H[b]?) (hc : ∀ cs, H[cb]? ≠ some ⟨cs, .ro⟩) : BRow H' a n c := by
  intro hn
  obtain ⟨b, o, cs, h1, h2, h3, h4⟩ := h hn
  refine ⟨b, o, cs, h1, h2, ?_, h4⟩
  rw [hk b (List.getElem?_eq_some_iff.1 h3).1 (by rintro rfl; exact hc cs h3)]
  exact h3
theorem Cur.lt {H : AH} {cb : Nat} (h : Cur H cb) : cb < H.length := by
  obtain ⟨a, n, c, i, h, h1, _⟩ := h
  exact (List.getElem?_eq_some_iff.1 h1).1
theorem Cur.mono {H L : AH} {cb : Nat} (h : Cur H cb) : Cur (H ++ L) cb := by
  obtain ⟨a, n, c, i, x, h1, h2, h3, h4⟩ := h
  refine ⟨a, n, c, i, x, gtl h1, h2, h3, fun hn => ?_⟩
  obtain ⟨b, o, cs, g1, g2, g3, g4⟩ := h4 hn
  exact ⟨b, o, cs, g1, g2, gtl g3, g4⟩
theorem Frm.refl {H : AH} {cb : Nat} (h : Cur H cb) : Frm cb H H := ⟨Nat.le_refl _, fun _ _ _ => rfl, h⟩
theorem Frm.trans {cb : Nat} {H H1 H2 : AH} (h : Frm cb H H1) (h' : Frm cb H1 H2) : Frm cb H H2 :=
  ⟨Nat.le_trans h.len h'.len, fun b hb hn => by rw [h'.keep b (Nat.lt_of_lt_of_le hb h.len) hn, h.keep b hb hn], h'.cur⟩
theorem Frm.app {cb : Nat} {H H1 L : AH} (h : Frm cb H H1) : Frm cb H (H1 ++ L) :=
  ⟨by have := h.len; simp; omega, fun b hb hn => by rw [List.getElem?_append_left (Nat.lt_of_lt_of_le hb h.len), h.keep b hb hn], h.cur.mono⟩
theorem Frm.own {cb : Nat} {H H1 : AH} {v : Value} {l : List Int} (h : Frm cb H H1) (ho : OwnRow H v l) (hn : blkOf v ≠ some cb) : OwnRow H1 v l :=
  ho.same fun b hb => h.keep b (ho.lt b hb) (by rintro rfl; exact hn hb)
theorem Frm.at {cb : Nat} {H H1 : AH} {b : Nat} {k : Blk} (h : Frm cb H H1) (hb : H[b]? = some k) (hn : b ≠ cb) : H1[b]? = some k := by
  rw [h.keep b (List.getElem?_eq_some_iff.1 hb).1 hn, hb]
theorem Cur.set {H : AH} {cb b : Nat} {k : Blk} (h : Cur H cb) (hb : ∀ cs, H[b]? ≠ some ⟨cs, .ro⟩) (hn : b ≠ cb) : Cur (H.set b k) cb := by
  obtain ⟨a, n, c, i, x, h1, h2, h3, h4⟩ := h
  refine ⟨a, n, c, i, x, by rw [List.getElem?_set_ne hn]; exact h1, h2, h3, fun hn0 => ?_⟩
  obtain ⟨b', o, cs, g1, g2, g3, g4⟩ := h4 hn0
  refine ⟨b', o, cs, g1, g2, ?_, g4⟩
  rw [List.getElem?_set_ne (by rintro rfl; exact hb cs g3)]
  exact g3
/-- A block behind the heap is written. -/
theorem Frm.set {cb b : Nat} {H H1 : AH} {k : Blk} {cs : List Value} (h : Frm cb H H1) (hb : H1[b]? = some ⟨cs, .own⟩) (hl : H.length ≤ b) (hn : b ≠ cb) : Frm cb H (H1.set b k) :=
  ⟨by rw [List.length_set]; exact h.len, fun g hg hgn => by rw [List.getElem?_set_ne (by omega)]; exact h.keep g hg hgn, h.cur.set (fun cs' e => by rw [hb] at e; cases e) hn⟩

theorem l1Byte_ok {H : AH} {cb : Nat} (hc : Cur H cb) : CallsA Try.prog 161 #[.pointer (some ⟨cb, 0, none⟩)] H fun r H' => (∃ v : Int, r = .int .i64 v ∧ 0 ≤ v ∧ v ≤ 255) ∧ Frm cb H H' := by
  obtain ⟨a, n, c, i, h, h1, hi, hn, hr⟩ := hc
  have m255 : (255 : Int) = ((255 : Nat) : Int) := rfl
  refine w161 ?_
  unfold k161
  have sh1 := @bin_shr Try.prog
  have hs : ∀ k : Int, Cur (H.set cb ⟨[.slice a n c, .int .i64 i, .int .i64 k], .own⟩) cb := fun k => ⟨a, n, c, i, k, set_at h1, hi, hn, hr.keep (cb := cb) (fun b hb hne => List.getElem?_set_ne (Ne.symm hne)) (fun cs e => by rw [h1] at e; cases e)⟩
  have q1 := fun k : Int => rd_own (set_at (k' := ⟨[.slice a n c, .int .i64 i, .int .i64 k], .own⟩) h1)
  have q2 := fun k : Int => wrt_own (set_at (k' := ⟨[.slice a n c, .int .i64 i, .int .i64 k], .own⟩) h1)
  simp -implicitDefEqProofs only [kz, kk0, kk1, kk2, kk3, ↓two_true, ↓two_false, oS_some, oM_some, mkv, aggAt, Nat.reduceLeDiff, Nat.reduceSub, Nat.reduceMul, implies_true, Nat.reduceEqDiff, reduceIte, Nat.reduceAdd, Nat.reduceBEq, reduceCtorEq, cv5_3, fa142_0, fa142_1, fa142_2, ix22, ld3, ld5, ld22, ln22, st3, rd_own h1, wrt_own h1, q1, q2, bin_shr (show ¬ (33 : Int) < 0 by decide), bin_shr (show ¬ (45 : Int) < 0 by decide)]
  generalize IntKind.i64.wrap (IntKind.i64.wrap (h * 6364136223846793005) + 1442695040888963407) = h'
  have hfr : ∀ (i' : Nat) (k : Int), i' ≤ n → Frm cb H (H.set cb ⟨[.slice a n c, .int .i64 i', .int .i64 k], .own⟩) := fun i' k hi' =>
    ⟨by simp, fun b hb hne => List.getElem?_set_ne (Ne.symm hne), ⟨a, n, c, i', k, set_at h1, hi', hn, hr.keep (cb := cb) (fun b hb hne => List.getElem?_set_ne (Ne.symm hne)) (fun cs e => by rw [h1] at e; cases e)⟩⟩
  refine two_intro (fun hlt => ?_) (fun hlt => ?_)
  · have hlt' : i < n := by simpa using hlt
    obtain ⟨b, o, cs, rfl, rfl, hb, hcell⟩ := hr (by omega)
    obtain ⟨v, hv, v0, v1⟩ := hcell i hlt'
    have hbc : b ≠ cb := by rintro rfl; rw [h1] at hb; cases hb
    have hrb : rd (H.set cb ⟨[.slice (some ⟨b, o, none⟩) n 1, .int .i64 i, .int .i64 h'], .own⟩) b = some cs := by
      unfold rd; rw [List.getElem?_set_ne (Ne.symm hbc), hb]; rfl
    simp -implicitDefEqProofs only [kz, kk0, kk1, kk2, kk3, ↓two_true, ↓two_false, oS_some, oM_some, mkv, aggAt, Nat.reduceLeDiff, Nat.reduceSub, Nat.reduceMul, implies_true, Nat.reduceEqDiff, reduceIte, Nat.reduceAdd, Nat.reduceBEq, reduceCtorEq, cv5_3, fa142_0, fa142_1, fa142_2, ix22, ld3, ld5, ld22, ln22, st3, Int.toNat_natCast, Nat.mul_one, hrb, hv, q1, q2, IntWalk.i64_in (↑i + 1) (by omega)]
    have hand := fun x : Int => and_le (a := x) (m := 255) (by decide)
    refine ⟨⟨by omega, by omega⟩, ⟨_, rfl, hand _⟩, ?_⟩
    rw [list_set_set]
    exact hfr (i + 1) h' hlt'
  · have hand := fun x : Int => and_le (a := x) (m := 255) (by decide)
    exact ⟨⟨_, rfl, hand _⟩, hfr i h' hi⟩

theorem tmod_rng {a n : Int} (ha : 0 ≤ a) (hn : 0 < n) : 0 ≤ a.tmod n ∧ a.tmod n < n := by
  rw [Int.tmod_eq_emod_of_nonneg ha]
  exact ⟨Int.emod_nonneg _ (by omega), Int.emod_lt_of_pos _ hn⟩
theorem l1Below_ok {H : AH} {cb : Nat} {n : Int} (hc : Cur H cb) : CallsA Try.prog 101 #[.pointer (some ⟨cb, 0, none⟩), .int .i64 n] H fun r H' => (∃ v : Int, r = .int .i64 v ∧ (n ≤ 0 → v = 0) ∧ (0 < n → 0 ≤ v ∧ v < n)) ∧ Frm cb H H' := by
  refine w101 ?_
  unfold k101
  simp -implicitDefEqProofs only [kz, kk0, kk1, kk2, kk3, ↓two_true, ↓two_false, oS_some, oM_some, mkv, aggAt, Nat.reduceLeDiff, Nat.reduceSub, Nat.reduceMul, implies_true, Nat.reduceEqDiff, reduceIte, Nat.reduceAdd, Nat.reduceBEq, reduceCtorEq]
  refine two_intro (fun h => ?_) (fun h => ?_)
  · have h' : n ≤ 0 := by simpa using h
    exact ⟨⟨0, rfl, fun _ => rfl, fun h => by omega⟩, Frm.refl hc⟩
  · have hn0 : n ≠ 0 := by simp at h; omega
    have hp : 0 < n := by simp at h; omega
    refine two_intro (fun h2 => ?_) (fun h2 => ?_)
    · refine (l1Byte_ok hc).mono ?_
      rintro _ H1 ⟨⟨v, rfl, v0, v1⟩, hf⟩
      simp -implicitDefEqProofs only [kz, kk0, kk1, kk2, kk3, ↓two_true, ↓two_false, oS_some, oM_some, mkv, aggAt, Nat.reduceLeDiff, Nat.reduceSub, Nat.reduceMul, implies_true, Nat.reduceEqDiff, reduceIte, Nat.reduceAdd, Nat.reduceBEq, reduceCtorEq, bin_rem hn0]
      exact ⟨⟨_, rfl, fun h => by omega, fun _ => tmod_rng v0 hp⟩, hf⟩
    · refine (l1Byte_ok hc).mono ?_
      rintro _ H1 ⟨⟨v, rfl, v0, v1⟩, hf1⟩
      simp -implicitDefEqProofs only [kz, kk0, kk1, kk2, kk3, ↓two_true, ↓two_false, oS_some, oM_some, mkv, aggAt, Nat.reduceLeDiff, Nat.reduceSub, Nat.reduceMul, implies_true, Nat.reduceEqDiff, reduceIte, Nat.reduceAdd, Nat.reduceBEq, reduceCtorEq]
      refine (l1Byte_ok hf1.cur).mono ?_
      rintro _ H2 ⟨⟨w, rfl, w0, w1⟩, hf2⟩
      simp -implicitDefEqProofs only [kz, kk0, kk1, kk2, kk3, ↓two_true, ↓two_false, oS_some, oM_some, mkv, aggAt, Nat.reduceLeDiff, Nat.reduceSub, Nat.reduceMul, implies_true, Nat.reduceEqDiff, reduceIte, Nat.reduceAdd, Nat.reduceBEq, reduceCtorEq]
      refine (l1Byte_ok hf2.cur).mono ?_
      rintro _ H3 ⟨⟨x, rfl, x0, x1⟩, hf3⟩
      simp -implicitDefEqProofs only [kz, kk0, kk1, kk2, kk3, ↓two_true, ↓two_false, oS_some, oM_some, mkv, aggAt, Nat.reduceLeDiff, Nat.reduceSub, Nat.reduceMul, implies_true, Nat.reduceEqDiff, reduceIte, Nat.reduceAdd, Nat.reduceBEq, reduceCtorEq]
      refine (l1Byte_ok hf3.cur).mono ?_
      rintro _ H4 ⟨⟨y, rfl, y0, y1⟩, hf4⟩
      have z1 : IntKind.i64.wrap (v * 16777216) = v * 16777216 := IntWalk.i64_in _ (by omega)
      have z2 : IntKind.i64.wrap (w * 65536) = w * 65536 := IntWalk.i64_in _ (by omega)
      have z3 : IntKind.i64.wrap (v * 16777216 + w * 65536) = v * 16777216 + w * 65536 := IntWalk.i64_in _ (by omega)
      have z4 : IntKind.i64.wrap (x * 256) = x * 256 := IntWalk.i64_in _ (by omega)
      have z5 : IntKind.i64.wrap (v * 16777216 + w * 65536 + x * 256) = v * 16777216 + w * 65536 + x * 256 := IntWalk.i64_in _ (by omega)
      have z6 : IntKind.i64.wrap (v * 16777216 + w * 65536 + x * 256 + y) = v * 16777216 + w * 65536 + x * 256 + y := IntWalk.i64_in _ (by omega)
      simp -implicitDefEqProofs only [kz, kk0, kk1, kk2, kk3, ↓two_true, ↓two_false, oS_some, oM_some, mkv, aggAt, Nat.reduceLeDiff, Nat.reduceSub, Nat.reduceMul, implies_true, Nat.reduceEqDiff, reduceIte, Nat.reduceAdd, Nat.reduceBEq, reduceCtorEq, bin_rem hn0, z1, z2, z3, z4, z5, z6]
      exact ⟨⟨_, rfl, fun h => by omega, fun _ => tmod_rng (by omega) hp⟩, ((hf1.trans hf2).trans hf3).trans hf4⟩

theorem l1Once_ok {H : AH} {cb : Nat} {n : Int} (hc : Cur H cb) : CallsA Try.prog 110 #[.pointer (some ⟨cb, 0, none⟩), .int .i64 n] H fun r H' => (∃ v : Bool, r = .bool v) ∧ Frm cb H H' := by
  refine w110 ?_
  unfold k110
  simp -implicitDefEqProofs only [kz, kk0, kk1, kk2, kk3, ↓two_true, ↓two_false, oS_some, oM_some, mkv, aggAt, Nat.reduceLeDiff, Nat.reduceSub, Nat.reduceMul, implies_true, Nat.reduceEqDiff, reduceIte, Nat.reduceAdd, Nat.reduceBEq, reduceCtorEq]
  refine (l1Below_ok hc).mono ?_
  rintro _ H1 ⟨⟨v, rfl, _⟩, hf⟩
  simp -implicitDefEqProofs only [kz, kk0, kk1, kk2, kk3, ↓two_true, ↓two_false, oS_some, oM_some, mkv, aggAt, Nat.reduceLeDiff, Nat.reduceSub, Nat.reduceMul, implies_true, Nat.reduceEqDiff, reduceIte, Nat.reduceAdd, Nat.reduceBEq, reduceCtorEq]
  exact ⟨⟨_, rfl⟩, hf⟩

theorem l1PickInt_ok {H : AH} {cb : Nat} {v : Value} {l : List Int} (hc : Cur H cb) (hv : OwnRow H v l) (hn : blkOf v ≠ some cb) (hl : 0 < l.length) : CallsA Try.prog 100 #[.pointer (some ⟨cb, 0, none⟩), v] H fun r H' => (∃ x : Int, r = .int .i64 x ∧ x ∈ l) ∧ Frm cb H H' := by
  obtain ⟨b, o, cs, rfl, hb, hle, hcs⟩ := hv.blk hl
  have hbc : b ≠ cb := fun e => hn (by rw [e]; rfl)
  refine w100 ?_
  unfold k100
  simp -implicitDefEqProofs only [kz, kk0, kk1, kk2, kk3, ↓two_true, ↓two_false, oS_some, oM_some, mkv, aggAt, Nat.reduceLeDiff, Nat.reduceSub, Nat.reduceMul, implies_true, Nat.reduceEqDiff, reduceIte, Nat.reduceAdd, Nat.reduceBEq, reduceCtorEq, ix24, ld3, ln24]
  refine (l1Below_ok hc).mono ?_
  rintro _ H1 ⟨⟨v, rfl, _, h2⟩, hf⟩
  obtain ⟨v0, v1⟩ := h2 (by omega)
  have hb1 := hf.at hb hbc
  obtain ⟨j, rfl⟩ : ∃ j : Nat, v = j := ⟨v.toNat, by omega⟩
  have hj : j < l.length := by omega
  have hc1 := hcs j l[j] (List.getElem?_eq_getElem hj)
  simp -implicitDefEqProofs only [kz, kk0, kk1, kk2, kk3, ↓two_true, ↓two_false, oS_some, oM_some, mkv, aggAt, Nat.reduceLeDiff, Nat.reduceSub, Nat.reduceMul, implies_true, Nat.reduceEqDiff, reduceIte, Nat.reduceAdd, Nat.reduceBEq, reduceCtorEq, ix24, ld3, ln24, Int.toNat_natCast, Nat.mul_one, rd_own hb1, hc1]
  exact ⟨⟨by omega, by omega⟩, ⟨_, rfl, List.getElem_mem hj⟩, hf⟩

/-- A row of its own, no older than a heap. -/
structure DR (H0 H : AH) (v : Value) (l : List Int) : Prop where
  own : OwnRow H v l
  fr : ∀ b, blkOf v = some b → H0.length ≤ b
theorem OwnRow.new {H : AH} {l : List Int} : OwnRow (H ++ [⟨ints l, .own⟩]) (.slice (some ⟨H.length, 0, none⟩) l.length 1) l :=
  .inr ⟨H.length, 0, ints l, rfl, by rw [gt0]; rfl, by simp [ints], List.take_of_length_le (by simp [ints])⟩
theorem DR.new {H0 H : AH} {l : List Int} (h : H0.length ≤ H.length) : DR H0 (H ++ [⟨ints l, .own⟩]) (.slice (some ⟨H.length, 0, none⟩) l.length 1) l :=
  ⟨OwnRow.new, fun b hb => by simp [blkOf] at hb; omega⟩
theorem DR.lit {H0 H : AH} {cs : List Value} {n : Nat} (l : List Int) (h : H0.length ≤ H.length) (he : cs = ints l) (hn : n = l.length) : DR H0 (H ++ [⟨cs, .own⟩]) (.slice (some ⟨H.length, 0, none⟩) n 1) l := by
  subst he; subst hn; exact DR.new h
theorem DR.back {H0 H1 H : AH} {v : Value} {l : List Int} (h : DR H1 H v l) (hl : H0.length ≤ H1.length) : DR H0 H v l := ⟨h.own, fun b hb => Nat.le_trans hl (h.fr b hb)⟩
theorem DR.mono {H0 H L : AH} {v : Value} {l : List Int} (h : DR H0 H v l) : DR H0 (H ++ L) v l := ⟨h.own.mono, h.fr⟩
theorem DR.frm {H0 H H' : AH} {cb : Nat} {v : Value} {l : List Int} (h : DR H0 H v l) (hf : Frm cb H H') (hc : cb < H0.length) : DR H0 H' v l :=
  ⟨hf.own h.own fun e => by have := h.fr _ e; omega, h.fr⟩
theorem DR.ne {H0 H : AH} {cb : Nat} {v : Value} {l : List Int} (h : DR H0 H v l) (hc : cb < H0.length) : blkOf v ≠ some cb := fun e => by have := h.fr _ e; omega
theorem Cur.same {H H' : AH} {cb : Nat} (h : Cur H cb) (h1 : H'[cb]? = H[cb]?) (h2 : ∀ (b : Nat) cs, H[b]? = some (⟨cs, .ro⟩ : Blk) → H'[b]? = some (⟨cs, .ro⟩ : Blk)) : Cur H' cb := by
  obtain ⟨a, n, c, i, x, g1, g2, g3, g4⟩ := h
  refine ⟨a, n, c, i, x, by rw [h1]; exact g1, g2, g3, fun hn => ?_⟩
  obtain ⟨b, o, cs, k1, k2, k3, k4⟩ := g4 hn
  exact ⟨b, o, cs, k1, k2, h2 b cs k3, k4⟩
theorem Frm.push {cb : Nat} {H0 H H' : AH} {v v' : Value} {l : List Int} (h : Frm cb H0 H) (ho : DR H0 H v l) (hc : cb < H0.length) (ha : App H v H' v') : Frm cb H0 H' := by
  refine ⟨Nat.le_trans h.len ha.len, fun b hb hn => ?_, h.cur.same (ha.keep _ h.cur.lt (ho.ne hc)) fun b cs hb => ?_⟩
  · rw [ha.keep b (Nat.lt_of_lt_of_le hb h.len) fun e => by have := ho.fr b e; omega, h.keep b hb hn]
  · rw [ha.keep b (List.getElem?_eq_some_iff.1 hb).1 fun e => ?_]
    · exact hb
    · rcases ho.own with ⟨rfl, _⟩ | ⟨b', o, cs', rfl, h2, _⟩
      · simp [blkOf] at e
      · simp [blkOf] at e; subst e; rw [hb] at h2; cases h2
theorem App.dr {H0 H H' : AH} {v v' : Value} {l m : List Int} (ha : App H v H' v') (ho : OwnRow H' v' m) (h : DR H0 H v l) (hl : H0.length ≤ H.length) : DR H0 H' v' m :=
  ⟨ho, fun b hb => (ha.new b hb).elim (h.fr b) fun h => Nat.le_trans hl h⟩
theorem App.row {H H' : AH} {v v' w : Value} {m : List Int} {H0 : AH} (h : App H v H' v') (hw : DR H0 H w m) (hd : ∀ b, blkOf w = some b → blkOf v ≠ some b) : DR H0 H' w m := ⟨h.own hw.own hd, hw.fr⟩

theorem l1DrawNum_ok {H : AH} {cb : Nat} (hc : Cur H cb) : CallsA Try.prog 164 #[.pointer (some ⟨cb, 0, none⟩)] H fun r H' => (∃ v : Int, r = .int .i64 v ∧ numOk v = true) ∧ Frm cb H H' := by
  refine w164 ?_
  unfold k164
  simp -implicitDefEqProofs only [kz, kk0, kk1, kk2, kk3, ↓two_true, ↓two_false, oS_some, oM_some, mkv, aggAt, Nat.reduceLeDiff, Nat.reduceSub, Nat.reduceMul, implies_true, Nat.reduceEqDiff, reduceIte, Nat.reduceAdd, Nat.reduceBEq, reduceCtorEq, bs24_7]
  refine (l1Once_ok hc).mono ?_
  rintro _ H1 ⟨⟨v, rfl⟩, hf⟩
  simp -implicitDefEqProofs only [kz, kk0, kk1, kk2, kk3, ↓two_true, ↓two_false, oS_some, oM_some, mkv, aggAt, Nat.reduceLeDiff, Nat.reduceSub, Nat.reduceMul, implies_true, Nat.reduceEqDiff, reduceIte, Nat.reduceAdd, Nat.reduceBEq, reduceCtorEq, bs24_7]
  refine two_intro (fun h => ?_) (fun h => ?_)
  · refine (l1PickInt_ok (l := [1000000000000, -1000000000000, 999999999999, 1000000, -1000000, 1000001, 999999999999]) hf.cur.mono OwnRow.new (by have := hf.cur.lt; simp [blkOf]; omega) (by decide)).mono ?_
    rintro _ H2 ⟨⟨x, rfl, hx⟩, hg⟩
    simp -implicitDefEqProofs only [kz, kk0, kk1, kk2, kk3, ↓two_true, ↓two_false, oS_some, oM_some, mkv, aggAt, Nat.reduceLeDiff, Nat.reduceSub, Nat.reduceMul, implies_true, Nat.reduceEqDiff, reduceIte, Nat.reduceAdd, Nat.reduceBEq, reduceCtorEq, bs24_7]
    exact ⟨⟨x, rfl, (show ∀ x ∈ [1000000000000, -1000000000000, 999999999999, 1000000, -1000000, 1000001, 999999999999], numOk x = true by decide) x hx⟩, hf.app.trans hg⟩
  · refine (l1Below_ok hf.cur).mono ?_
    rintro _ H2 ⟨⟨x, rfl, _, hx⟩, hg⟩
    have hx := hx (by decide)
    simp -implicitDefEqProofs only [kz, kk0, kk1, kk2, kk3, ↓two_true, ↓two_false, oS_some, oM_some, mkv, aggAt, Nat.reduceLeDiff, Nat.reduceSub, Nat.reduceMul, implies_true, Nat.reduceEqDiff, reduceIte, Nat.reduceAdd, Nat.reduceBEq, reduceCtorEq, bs24_7]
    rw [IntWalk.i64_in (x - 6) (by omega)]
    refine ⟨⟨x - 6, rfl, ?_⟩, hf.trans hg⟩
    simp [numOk, inB]; omega

theorem l1DrawRaw_ok {H : AH} {cb : Nat} (hc : Cur H cb) : CallsA Try.prog 147 #[.pointer (some ⟨cb, 0, none⟩)] H fun r H' => (∃ v : Int, r = .int .i64 v ∧ I64 v) ∧ Frm cb H H' := by
  refine w147 ?_
  unfold k147
  simp -implicitDefEqProofs only [kz, kk0, kk1, kk2, kk3, ↓two_true, ↓two_false, oS_some, oM_some, mkv, aggAt, Nat.reduceLeDiff, Nat.reduceSub, Nat.reduceMul, implies_true, Nat.reduceEqDiff, reduceIte, Nat.reduceAdd, Nat.reduceBEq, reduceCtorEq, bs24_4]
  refine (l1Once_ok hc).mono ?_
  rintro _ H1 ⟨⟨v, rfl⟩, hf⟩
  simp -implicitDefEqProofs only [kz, kk0, kk1, kk2, kk3, ↓two_true, ↓two_false, oS_some, oM_some, mkv, aggAt, Nat.reduceLeDiff, Nat.reduceSub, Nat.reduceMul, implies_true, Nat.reduceEqDiff, reduceIte, Nat.reduceAdd, Nat.reduceBEq, reduceCtorEq, bs24_4]
  refine two_intro (fun h => ?_) (fun h => ?_)
  · refine (l1PickInt_ok (l := [1000000000001, -1000000000001, 9223372036854775807, -9223372036854775808]) hf.cur.mono OwnRow.new (by have := hf.cur.lt; simp [blkOf]; omega) (by decide)).mono ?_
    rintro _ H2 ⟨⟨x, rfl, hx⟩, hg⟩
    simp -implicitDefEqProofs only [kz, kk0, kk1, kk2, kk3, ↓two_true, ↓two_false, oS_some, oM_some, mkv, aggAt, Nat.reduceLeDiff, Nat.reduceSub, Nat.reduceMul, implies_true, Nat.reduceEqDiff, reduceIte, Nat.reduceAdd, Nat.reduceBEq, reduceCtorEq, bs24_4]
    refine ⟨⟨x, rfl, ?_⟩, hf.app.trans hg⟩
    simp only [List.mem_cons, List.not_mem_nil, or_false] at hx
    unfold I64; omega
  · refine (l1DrawNum_ok hf.cur).mono ?_
    rintro _ H2 ⟨⟨x, rfl, hx⟩, hg⟩
    simp -implicitDefEqProofs only [kz, kk0, kk1, kk2, kk3, ↓two_true, ↓two_false, oS_some, oM_some, mkv, aggAt, Nat.reduceLeDiff, Nat.reduceSub, Nat.reduceMul, implies_true, Nat.reduceEqDiff, reduceIte, Nat.reduceAdd, Nat.reduceBEq, reduceCtorEq, bs24_4]
    refine ⟨⟨x, rfl, ?_⟩, hf.trans hg⟩
    simp [numOk, inB] at hx; unfold I64; omega

theorem l2DrawRight_ok {H : AH} {cb : Nat} (hc : Cur H cb) : CallsA Try.prog 181 #[.pointer (some ⟨cb, 0, none⟩)] H fun r H' => (∃ l, DR H H' r l ∧ l.length ≤ 3) ∧ Frm cb H H' := by
  refine w181 ?_
  unfold k181
  simp -implicitDefEqProofs only [kz, kk0, kk1, kk2, kk3, ↓two_true, ↓two_false, oS_some, oM_some, mkv, aggAt, Nat.reduceLeDiff, Nat.reduceSub, Nat.reduceMul, implies_true, Nat.reduceEqDiff, reduceIte, Nat.reduceAdd, Nat.reduceBEq, reduceCtorEq, bs24_0, bs24_1, bs24_2, bs24_3]
  refine (l1Below_ok hc).mono ?_
  rintro _ H1 ⟨⟨v, rfl, _⟩, hf⟩
  simp -implicitDefEqProofs only [kz, kk0, kk1, kk2, kk3, ↓two_true, ↓two_false, oS_some, oM_some, mkv, aggAt, Nat.reduceLeDiff, Nat.reduceSub, Nat.reduceMul, implies_true, Nat.reduceEqDiff, reduceIte, Nat.reduceAdd, Nat.reduceBEq, reduceCtorEq, bs24_0, bs24_1, bs24_2, bs24_3]
  refine two_intro (fun h => ?_) (fun h => ?_)
  · exact ⟨⟨[], DR.lit [] hf.len rfl rfl, by simp⟩, hf.app⟩
  refine two_intro (fun h1 => ?_) (fun h1 => ?_)
  · rw [h1, two_true]
    refine (l1Below_ok hf.cur).mono ?_
    rintro _ H2 ⟨⟨x, rfl, _⟩, hg⟩
    simp -implicitDefEqProofs only [kz, kk0, kk1, kk2, kk3, ↓two_true, ↓two_false, oS_some, oM_some, mkv, aggAt, Nat.reduceLeDiff, Nat.reduceSub, Nat.reduceMul, implies_true, Nat.reduceEqDiff, reduceIte, Nat.reduceAdd, Nat.reduceBEq, reduceCtorEq, bs24_0, bs24_1, bs24_2, bs24_3]
    exact ⟨⟨[x], DR.lit [x] (hf.trans hg).len rfl rfl, by simp⟩, (hf.trans hg).app⟩
  · refine two_intro (fun h2 => ?_) (fun h2 => ?_)
    · refine (l1Below_ok hf.cur).mono ?_
      rintro _ H2 ⟨⟨x, rfl, _⟩, hg⟩
      simp -implicitDefEqProofs only [kz, kk0, kk1, kk2, kk3, ↓two_true, ↓two_false, oS_some, oM_some, mkv, aggAt, Nat.reduceLeDiff, Nat.reduceSub, Nat.reduceMul, implies_true, Nat.reduceEqDiff, reduceIte, Nat.reduceAdd, Nat.reduceBEq, reduceCtorEq, bs24_0, bs24_1, bs24_2, bs24_3]
      exact ⟨⟨[x], DR.lit [x] (hf.trans hg).len rfl rfl, by simp⟩, (hf.trans hg).app⟩
    · refine two_intro (fun h3 => ?_) (fun h3 => ?_)
      · refine (l1Below_ok hf.cur).mono ?_
        rintro _ H2 ⟨⟨x, rfl, _⟩, hg⟩
        simp -implicitDefEqProofs only [kz, kk0, kk1, kk2, kk3, ↓two_true, ↓two_false, oS_some, oM_some, mkv, aggAt, Nat.reduceLeDiff, Nat.reduceSub, Nat.reduceMul, implies_true, Nat.reduceEqDiff, reduceIte, Nat.reduceAdd, Nat.reduceBEq, reduceCtorEq, bs24_0, bs24_1, bs24_2, bs24_3]
        have hf := hf.trans hg
        refine (l1Below_ok hf.cur).mono ?_
        rintro _ H3 ⟨⟨y, rfl, _⟩, hg⟩
        simp -implicitDefEqProofs only [kz, kk0, kk1, kk2, kk3, ↓two_true, ↓two_false, oS_some, oM_some, mkv, aggAt, Nat.reduceLeDiff, Nat.reduceSub, Nat.reduceMul, implies_true, Nat.reduceEqDiff, reduceIte, Nat.reduceAdd, Nat.reduceBEq, reduceCtorEq, bs24_0, bs24_1, bs24_2, bs24_3]
        exact ⟨⟨[_, _], DR.lit [_, _] (hf.trans hg).len rfl rfl, by simp⟩, (hf.trans hg).app⟩
      · refine (l1Below_ok hf.cur).mono ?_
        rintro _ H2 ⟨⟨x, rfl, _⟩, hg⟩
        simp -implicitDefEqProofs only [kz, kk0, kk1, kk2, kk3, ↓two_true, ↓two_false, oS_some, oM_some, mkv, aggAt, Nat.reduceLeDiff, Nat.reduceSub, Nat.reduceMul, implies_true, Nat.reduceEqDiff, reduceIte, Nat.reduceAdd, Nat.reduceBEq, reduceCtorEq, bs24_0, bs24_1, bs24_2, bs24_3]
        have hf := hf.trans hg
        refine (l1Below_ok hf.cur).mono ?_
        rintro _ H3 ⟨⟨y, rfl, _⟩, hg⟩
        simp -implicitDefEqProofs only [kz, kk0, kk1, kk2, kk3, ↓two_true, ↓two_false, oS_some, oM_some, mkv, aggAt, Nat.reduceLeDiff, Nat.reduceSub, Nat.reduceMul, implies_true, Nat.reduceEqDiff, reduceIte, Nat.reduceAdd, Nat.reduceBEq, reduceCtorEq, bs24_0, bs24_1, bs24_2, bs24_3]
        have hf := hf.trans hg
        refine (l1Below_ok hf.cur).mono ?_
        rintro _ H4 ⟨⟨z, rfl, _⟩, hg⟩
        simp -implicitDefEqProofs only [kz, kk0, kk1, kk2, kk3, ↓two_true, ↓two_false, oS_some, oM_some, mkv, aggAt, Nat.reduceLeDiff, Nat.reduceSub, Nat.reduceMul, implies_true, Nat.reduceEqDiff, reduceIte, Nat.reduceAdd, Nat.reduceBEq, reduceCtorEq, bs24_0, bs24_1, bs24_2, bs24_3]
        exact ⟨⟨[_, _, _], DR.lit [_, _, _] (hf.trans hg).len rfl rfl, by simp⟩, (hf.trans hg).app⟩

theorem l2Draw_ok {H : AH} {cb : Nat} (hc : Cur H cb) : CallsA Try.prog 146 #[.pointer (some ⟨cb, 0, none⟩)] H fun r H' => (∃ l, DR H H' r l ∧ l.length ≤ 4) ∧ Frm cb H H' := by
  have hlt := hc.lt
  refine w146 ?_
  unfold k146
  simp -implicitDefEqProofs only [kz, kk0, kk1, kk2, kk3, ↓two_true, ↓two_false, oS_some, oM_some, mkv, aggAt, Nat.reduceLeDiff, Nat.reduceSub, Nat.reduceMul, implies_true, Nat.reduceEqDiff, reduceIte, Nat.reduceAdd, Nat.reduceBEq, reduceCtorEq, ap24_24, bs24_1, bs24_2, bs24_4]
  refine (l2DrawRight_ok hc).mono ?_
  rintro _ H1 ⟨⟨l, hl, hn⟩, hf⟩
  obtain ⟨a, c, rfl⟩ := hl.own.isSlice
  simp -implicitDefEqProofs only [kz, kk0, kk1, kk2, kk3, ↓two_true, ↓two_false, oS_some, oM_some, mkv, aggAt, Nat.reduceLeDiff, Nat.reduceSub, Nat.reduceMul, implies_true, Nat.reduceEqDiff, reduceIte, Nat.reduceAdd, Nat.reduceBEq, reduceCtorEq, ap24_24, bs24_1, bs24_2, bs24_4]
  refine (l1Below_ok hf.cur).mono ?_
  rintro _ H2 ⟨⟨v, rfl, _⟩, hg⟩
  have hl := hl.frm hg hlt
  have hf := hf.trans hg
  simp -implicitDefEqProofs only [kz, kk0, kk1, kk2, kk3, ↓two_true, ↓two_false, oS_some, oM_some, mkv, aggAt, Nat.reduceLeDiff, Nat.reduceSub, Nat.reduceMul, implies_true, Nat.reduceEqDiff, reduceIte, Nat.reduceAdd, Nat.reduceBEq, reduceCtorEq, ap24_24, bs24_1, bs24_2, bs24_4]
  have hcb := fun (H3 : AH) (h : Frm cb H H3) (n : Nat) => show blkOf (.slice (some ⟨H3.length, 0, none⟩) n 1) ≠ some cb by have := h.len; simp [blkOf]; omega
  refine two_intro (fun h => ?_) (fun h => two_intro (fun h => ?_) (fun h => two_intro (fun h => ?_) (fun h => ?_)))
  · refine (l1PickInt_ok (l := [-1, 0, 300, 301]) hf.cur.mono OwnRow.new (hcb _ hf _) (by decide)).mono ?_
    rintro _ H3 ⟨⟨x, rfl, _⟩, hg⟩
    have hl := hl.mono.frm hg hlt
    have hf := hf.app.trans hg
    simp -implicitDefEqProofs only [kz, kk0, kk1, kk2, kk3, ↓two_true, ↓two_false, oS_some, oM_some, mkv, aggAt, Nat.reduceLeDiff, Nat.reduceSub, Nat.reduceMul, implies_true, Nat.reduceEqDiff, reduceIte, Nat.reduceAdd, Nat.reduceBEq, reduceCtorEq, ap24_24, bs24_1, bs24_2, bs24_4]
    refine oA_own hl.own.mono intRow1 (by simp; omega) fun a2 c2 H4 o2 x2 => ?_
    simp -implicitDefEqProofs only [kz, kk0, kk1, kk2, kk3, ↓two_true, ↓two_false, oS_some, oM_some, mkv, aggAt, Nat.reduceLeDiff, Nat.reduceSub, Nat.reduceMul, implies_true, Nat.reduceEqDiff, reduceIte, Nat.reduceAdd, Nat.reduceBEq, reduceCtorEq, ap24_24, bs24_1, bs24_2, bs24_4]
    refine ⟨⟨_, x2.dr o2 hl.mono (by have := hf.len; simp; omega), by simp; omega⟩, hf.app.push hl.mono hlt x2⟩
  · exact ⟨⟨[_, _, _, _], DR.lit [_, _, _, _] hf.len rfl rfl, by simp⟩, hf.app⟩
  · refine (l1PickInt_ok (l := [17, 20, 15, 300]) hf.cur.mono OwnRow.new (hcb _ hf _) (by decide)).mono ?_
    rintro _ H3 ⟨⟨x, rfl, _⟩, hg⟩
    have hf := hf.app.trans hg
    simp -implicitDefEqProofs only [kz, kk0, kk1, kk2, kk3, ↓two_true, ↓two_false, oS_some, oM_some, mkv, aggAt, Nat.reduceLeDiff, Nat.reduceSub, Nat.reduceMul, implies_true, Nat.reduceEqDiff, reduceIte, Nat.reduceAdd, Nat.reduceBEq, reduceCtorEq, ap24_24, bs24_1, bs24_2, bs24_4]
    refine (l1PickInt_ok (l := [15, 20, 16, 0]) hf.cur.mono OwnRow.new (hcb _ hf _) (by decide)).mono ?_
    rintro _ H4 ⟨⟨y, rfl, _⟩, hg⟩
    have hf := hf.app.trans hg
    simp -implicitDefEqProofs only [kz, kk0, kk1, kk2, kk3, ↓two_true, ↓two_false, oS_some, oM_some, mkv, aggAt, Nat.reduceLeDiff, Nat.reduceSub, Nat.reduceMul, implies_true, Nat.reduceEqDiff, reduceIte, Nat.reduceAdd, Nat.reduceBEq, reduceCtorEq, ap24_24, bs24_1, bs24_2, bs24_4]
    exact ⟨⟨[_, _], DR.lit [_, _] hf.len rfl rfl, by simp⟩, hf.app⟩
  · exact ⟨⟨l, hl, by omega⟩, hf⟩

/-- An array of its own that was drawn. -/
structure DA (H0 H : AH) (p q : Value) (sh dt : List Int) : Prop where
  sh : DR H0 H p sh
  dt : DR H0 H q dt
  dj : Dj p q
theorem DA.frm {H0 H H' : AH} {cb : Nat} {p q : Value} {sh dt : List Int} (h : DA H0 H p q sh dt) (hf : Frm cb H H') (hc : cb < H0.length) : DA H0 H' p q sh dt := ⟨h.sh.frm hf hc, h.dt.frm hf hc, h.dj⟩
theorem DA.mono {H0 H L : AH} {p q : Value} {sh dt : List Int} (h : DA H0 H p q sh dt) : DA H0 (H ++ L) p q sh dt := ⟨h.sh.mono, h.dt.mono, h.dj⟩
theorem DA.back {H0 H1 H : AH} {p q : Value} {sh dt : List Int} (h : DA H1 H p q sh dt) (hl : H0.length ≤ H1.length) : DA H0 H p q sh dt := ⟨h.sh.back hl, h.dt.back hl, h.dj⟩
/-- An array that grows in a box, while there are draws. -/
structure GroF (cb : Nat) (H0 : AH) (bx : List (Nat × Blk)) (o : Nat) (sh : Value) (ss : List Int) (a' : Option Addr) (c' : Nat) (l : List Int) (H : AH) : Prop where
  bs : ∀ x ∈ bx, H[x.1]? = some x.2 ∧ x.1 < o ∧ x.1 ≠ cb
  out : H[o]? = some ⟨[sh, .slice a' l.length c'], .own⟩
  osh : DR H0 H sh ss
  od : DR H0 H (.slice a' l.length c') l
  nd : ∀ b, blkOf (.slice a' l.length c') = some b → o < b
  ns : ∀ b, blkOf sh = some b → b < o ∧ ∀ x ∈ bx, x.1 ≠ b
  n0 : H0.length ≤ o
  nc : cb < H0.length
  ext : Frm cb H0 H
theorem GroF.mono {cb : Nat} {H0 H L : AH} {bx : List (Nat × Blk)} {o : Nat} {sh : Value} {ss : List Int} {a' : Option Addr} {c' : Nat} {l : List Int} (h : GroF cb H0 bx o sh ss a' c' l H) : GroF cb H0 bx o sh ss a' c' l (H ++ L) :=
  ⟨fun x hx => ⟨gtl (h.bs x hx).1, (h.bs x hx).2⟩, gtl h.out, h.osh.mono, h.od.mono, h.nd, h.ns, h.n0, h.nc, h.ext.app⟩
theorem GroF.frm {cb : Nat} {H0 H H' : AH} {bx : List (Nat × Blk)} {o : Nat} {sh : Value} {ss : List Int} {a' : Option Addr} {c' : Nat} {l : List Int} (h : GroF cb H0 bx o sh ss a' c' l H) (hf : Frm cb H H') : GroF cb H0 bx o sh ss a' c' l H' :=
  ⟨fun x hx => ⟨hf.at (h.bs x hx).1 (h.bs x hx).2.2, (h.bs x hx).2⟩, hf.at h.out (by have := h.n0; have := h.nc; omega), h.osh.frm hf h.nc, h.od.frm hf h.nc, h.nd, h.ns, h.n0, h.nc, h.ext.trans hf⟩
/-- Numbers are put behind, and the box is written anew. -/
theorem GroF.push {cb : Nat} {H0 H H2 : AH} {bx : List (Nat × Blk)} {o : Nat} {sh : Value} {ss : List Int} {a' a2 : Option Addr} {c' c2 : Nat} {l m : List Int} (h : GroF cb H0 bx o sh ss a' c' l H)
    (ho : OwnRow H2 (.slice a2 (l.length + m.length) c2) (l ++ m)) (ha : App H (.slice a' l.length c') H2 (.slice a2 (l.length + m.length) c2)) :
    H2[o]? = some ⟨[sh, .slice a' l.length c'], .own⟩ ∧ (∀ x ∈ bx, H2[x.1]? = some x.2) ∧ GroF cb H0 bx o sh ss a2 c2 (l ++ m) (H2.set o ⟨[sh, .slice a2 (l.length + m.length) c2], .own⟩) := by
  have hne : ∀ b, b ≤ o → blkOf (.slice a' l.length c') ≠ some b := fun b hb e => by have := h.nd b e; omega
  have hol := (List.getElem?_eq_some_iff.1 h.out).1
  have hn0 := h.n0
  have hnc := h.nc
  have k1 : H2[o]? = _ := (ha.keep o hol (hne o (Nat.le_refl _))).trans h.out
  have k2 : ∀ x ∈ bx, H2[x.1]? = some x.2 := fun x hx => by
    have := h.bs x hx
    rw [ha.keep x.1 (by omega) (hne _ (by omega)), this.1]
  have hn2 : ∀ b, blkOf (.slice a2 (l.length + m.length) c2) = some b → o < b := fun b hb => (ha.new b hb).elim (h.nd b) fun h => by omega
  have hf := h.ext.push h.od hnc ha
  refine ⟨k1, k2, ⟨fun x hx => ⟨?_, (h.bs x hx).2⟩, ?_, ?_, ?_, ?_, h.ns, h.n0, h.nc, ?_⟩⟩
  · rw [List.getElem?_set_ne (by have := (h.bs x hx).2; omega)]
    exact k2 x hx
  · rw [List.length_append]; exact set_at k1
  · refine ⟨(ha.own h.osh.own fun b hb => hne b (by have := h.ns b hb; omega)).set fun e => ?_, h.osh.fr⟩
    have := h.ns _ e; omega
  · rw [List.length_append]
    exact ⟨ho.set fun e => by have := hn2 _ e; omega, fun b hb => by have := hn2 b hb; omega⟩
  · rw [List.length_append]; exact hn2
  · exact hf.set k1 (by omega) (by omega)
theorem GroF.da {cb : Nat} {H0 H : AH} {bx : List (Nat × Blk)} {o : Nat} {sh : Value} {ss : List Int} {a' : Option Addr} {c' : Nat} {l : List Int} (h : GroF cb H0 bx o sh ss a' c' l H) {b : Nat} {k : Blk} {cs : List Value} (hb : b < o) (hs : blkOf sh ≠ some b) (h0 : H0.length ≤ b) (hk : H[b]? = some ⟨cs, .own⟩) :
    DA H0 (H.set b k) sh (.slice a' l.length c') ss l ∧ Frm cb H0 (H.set b k) := by
  have hnc := h.nc
  refine ⟨⟨⟨h.osh.own.set hs, h.osh.fr⟩, ⟨h.od.own.set fun e => ?_, h.od.fr⟩, fun g h1 h2 => ?_⟩, h.ext.set hk h0 (by omega)⟩
  · have := h.nd _ e; omega
  · have := h.nd _ h2; have := h.ns _ h1; omega

theorem l3Fill_ok {H : AH} {cb : Nat} {v : Value} {l : List Int} (hc : Cur H cb) (hv : OwnRow H v l) (hn : blkOf v ≠ some cb) (hl : l.length ≤ 1048576) : CallsA Try.prog 111 #[.pointer (some ⟨cb, 0, none⟩), v] H fun r H' =>
    (∃ p q dt, r = .agg #[p, q] ∧ DA H H' p q l dt ∧ dt.length = (sizeI l).toNat ∧ ∀ x ∈ dt, numOk x = true) ∧ Frm cb H H' := by
  have hlt := hc.lt
  obtain ⟨a, c, rfl⟩ := hv.isSlice
  refine w111 ?_
  unfold k111
  simp -implicitDefEqProofs only [kz, kk0, kk1, kk2, kk3, ↓two_true, ↓two_false, oS_some, oM_some, mkv, aggAt, Nat.reduceLeDiff, Nat.reduceSub, Nat.reduceMul, implies_true, Nat.reduceEqDiff, reduceIte, Nat.reduceAdd, Nat.reduceBEq, reduceCtorEq, al26, ap24_24, bd26, bs24_0, bs24_1, fa26_1, ld24, ld26, st24, st26]
  refine oA_own (l := []) (OwnRow.at0 (cs := []) (by rw [gti]; rfl)) hv.int.mono (by simp; omega) fun a2 c2 H1 o1 x1 => ?_
  simp only [List.length_nil, Nat.zero_add, List.nil_append] at o1 x1 ⊢
  have b0 := x1.at (b := H.length) (by rw [gt0]; rfl) (by simp [blkOf])
  have f1 : Frm cb H H1 := (Frm.refl hc).app.push (v := .slice (some ⟨H.length + 1, 0, none⟩) 0 1) (l := []) ⟨OwnRow.at0 (cs := []) (by rw [gti]; rfl), fun b hb => by simp [blkOf] at hb; omega⟩ hlt x1
  have hl1 := x1.len
  simp only [List.length_append, List.length_cons, List.length_nil] at hl1
  have n1 : ∀ b, blkOf (.slice a2 l.length c2) = some b → H.length + 1 ≤ b := fun b hb => by
    rcases x1.new b hb with h | h
    · simp [blkOf] at h; omega
    · simp at h; omega
  have hsz := sizeI_le (l := l)
  simp -implicitDefEqProofs only [kz, kk0, kk1, kk2, kk3, ↓two_true, ↓two_false, oS_some, oM_some, mkv, aggAt, Nat.reduceLeDiff, Nat.reduceSub, Nat.reduceMul, implies_true, Nat.reduceEqDiff, reduceIte, Nat.reduceAdd, Nat.reduceBEq, reduceCtorEq, al26, ap24_24, bd26, bs24_0, bs24_1, fa26_1, ld24, ld26, st24, st26]
  refine rW_loop (σ := Nat × Option Addr × Nat × List Int) (fun x tm H' => tm 0 = .pointer (some ⟨cb, 0, none⟩) ∧ tm 1 = .slice a l.length c ∧ tm 4 = .pointer (some ⟨H.length, 0, none⟩) ∧ tm 5 = .pointer (some ⟨H1.length, 0, none⟩) ∧ tm 6 = .int .i64 x.1 ∧
    x.2.2.2.length = x.1 ∧ x.1 ≤ (sizeI l).toNat ∧ (∀ y ∈ x.2.2.2, numOk y = true) ∧ GroF cb H [(H.length, ⟨[.slice none 0 0, .slice none 0 0], .own⟩)] H1.length (.slice a2 l.length c2) l x.2.1 x.2.2.1 x.2.2.2 H') (fun x => (sizeI l).toNat - x.1) (0, none, 0, []) ?_ ?_
  · refine ⟨rfl, rfl, rfl, rfl, rfl, rfl, Nat.zero_le _, fun _ h => by simp at h, ⟨fun x hx => ?_, by rw [gt0]; rfl, ?_, ⟨OwnRow.nil, fun b hb => by simp [blkOf] at hb⟩, fun b hb => by simp [blkOf] at hb, fun b hb => ?_, by omega, hlt, f1.app⟩⟩
    · rw [List.mem_singleton.1 hx]; exact ⟨gtl b0, by omega, by simp only; omega⟩
    · exact ⟨o1.mono, fun b hb => by have := n1 b hb; omega⟩
    · have := n1 b hb
      exact ⟨o1.lt b hb, fun x hx => by rw [List.mem_singleton.1 hx]; simp only; omega⟩
  · rintro ⟨i, a', c', dt⟩ tm H' ⟨h0, h1, h4, h5, h6, hi, hle, hok, hg⟩
    simp only at h6 hi hle hok hg
    have es := fun Φ => (specSizeOf_ok (hg.ext.own hv hn).int (by omega)).eq0 (Φ := Φ)
    simp -implicitDefEqProofs only [kz, kk0, kk1, kk2, kk3, ↓two_true, ↓two_false, oS_some, oM_some, mkv, aggAt, Nat.reduceLeDiff, Nat.reduceSub, Nat.reduceMul, implies_true, Nat.reduceEqDiff, reduceIte, Nat.reduceAdd, Nat.reduceBEq, reduceCtorEq, al26, ap24_24, bd26, bs24_0, bs24_1, fa26_1, ld24, ld26, st24, st26, h0, h1, h4, h5, h6, es]
    refine two_intro (fun hlt2 => ?_) (fun hlt2 => ?_)
    · have hlt3 : (i : Int) < sizeI l := by simpa using hlt2
      simp -implicitDefEqProofs only [kz, kk0, kk1, kk2, kk3, ↓two_true, ↓two_false, oS_some, oM_some, mkv, aggAt, Nat.reduceLeDiff, Nat.reduceSub, Nat.reduceMul, implies_true, Nat.reduceEqDiff, reduceIte, Nat.reduceAdd, Nat.reduceBEq, reduceCtorEq, al26, ap24_24, bd26, bs24_0, bs24_1, fa26_1, ld24, ld26, st24, st26, h0, h1, h4, h5, h6, rd_own hg.out]
      refine (l1DrawNum_ok hg.ext.cur).mono ?_
      rintro _ H2 ⟨⟨y, rfl, hy⟩, hf⟩
      have hg2 := hg.frm hf
      simp -implicitDefEqProofs only [kz, kk0, kk1, kk2, kk3, ↓two_true, ↓two_false, oS_some, oM_some, mkv, aggAt, Nat.reduceLeDiff, Nat.reduceSub, Nat.reduceMul, implies_true, Nat.reduceEqDiff, reduceIte, Nat.reduceAdd, Nat.reduceBEq, reduceCtorEq, al26, ap24_24, bd26, bs24_0, bs24_1, fa26_1, ld24, ld26, st24, st26, h0, h1, h4, h5, h6, rd_own hg.out, rd_own hg2.out]
      refine oA_own hg2.od.own.mono intRow1 (by simp; omega) fun a3 c3 H3 o3 x3 => ?_
      obtain ⟨k1, k2, k3⟩ := hg2.mono.push o3 x3
      simp -implicitDefEqProofs only [kz, kk0, kk1, kk2, kk3, ↓two_true, ↓two_false, oS_some, oM_some, mkv, aggAt, Nat.reduceLeDiff, Nat.reduceSub, Nat.reduceMul, implies_true, Nat.reduceEqDiff, reduceIte, Nat.reduceAdd, Nat.reduceBEq, reduceCtorEq, al26, ap24_24, bd26, bs24_0, bs24_1, fa26_1, ld24, ld26, st24, st26, h0, h1, h4, h5, h6, wrt_own k1, IntWalk.i64_in (↑i + 1) (by omega)]
      simp only [List.length_cons, List.length_nil, Nat.zero_add] at k3
      refine ⟨(i + 1, a3, c3, dt ++ [y]), by simp only; omega, by simp, by simp [hi], by simp only; omega, fun z hz => ?_, k3⟩
      rcases List.mem_append.1 hz with h | h
      · exact hok z h
      · rw [List.mem_singleton.1 h]; exact hy
    · have hlt3 : ¬ (i : Int) < sizeI l := by simpa using hlt2
      have k0 : H'[H.length]? = _ := (hg.bs _ (List.mem_singleton.2 rfl)).1
      have k4 := rd_own (set_at (k' := ⟨[.slice a2 l.length c2, .slice a' dt.length c'], .own⟩) k0)
      simp -implicitDefEqProofs only [kz, kk0, kk1, kk2, kk3, ↓two_true, ↓two_false, oS_some, oM_some, mkv, aggAt, Nat.reduceLeDiff, Nat.reduceSub, Nat.reduceMul, implies_true, Nat.reduceEqDiff, reduceIte, Nat.reduceAdd, Nat.reduceBEq, reduceCtorEq, al26, ap24_24, bd26, bs24_0, bs24_1, fa26_1, ld24, ld26, st24, st26, h0, h1, h4, h5, h6, rd_own hg.out, wrt_own k0, k4]
      have hne : blkOf (.slice a2 l.length c2) ≠ some H.length := fun e => by have := n1 _ e; omega
      obtain ⟨d1, d2⟩ := hg.da (b := H.length) (k := ⟨[.slice a2 l.length c2, .slice a' dt.length c'], .own⟩) (by omega) hne (Nat.le_refl _) k0
      exact ⟨⟨_, _, dt, rfl, d1, by omega, hok⟩, d2⟩

theorem l3DrawRight_ok {H : AH} {cb : Nat} (hc : Cur H cb) : CallsA Try.prog 145 #[.pointer (some ⟨cb, 0, none⟩)] H fun r H' =>
    (∃ p q sh dt, r = .agg #[p, q] ∧ DA H H' p q sh dt ∧ sh.length ≤ 3 ∧ dt.length = (sizeI sh).toNat ∧ ∀ x ∈ dt, numOk x = true) ∧ Frm cb H H' := by
  have hlt := hc.lt
  refine w145 ?_
  unfold k145
  simp -implicitDefEqProofs only [kz, kk0, kk1, kk2, kk3, ↓two_true, ↓two_false, oS_some, oM_some, mkv, aggAt, Nat.reduceLeDiff, Nat.reduceSub, Nat.reduceMul, implies_true, Nat.reduceEqDiff, reduceIte, Nat.reduceAdd, Nat.reduceBEq, reduceCtorEq, al26, ld26, st26]
  refine (l2DrawRight_ok hc.mono).mono ?_
  rintro _ H1 ⟨⟨l, hl, hn⟩, hf⟩
  have b0 := hf.at (b := H.length) (by rw [gt0]; rfl) (by omega)
  simp -implicitDefEqProofs only [kz, kk0, kk1, kk2, kk3, ↓two_true, ↓two_false, oS_some, oM_some, mkv, aggAt, Nat.reduceLeDiff, Nat.reduceSub, Nat.reduceMul, implies_true, Nat.reduceEqDiff, reduceIte, Nat.reduceAdd, Nat.reduceBEq, reduceCtorEq, al26, ld26, st26]
  have hlt2 : cb < (H ++ [⟨[.slice none 0 0, .slice none 0 0], .own⟩] : AH).length := by simp; omega
  refine (l3Fill_ok hf.cur hl.own (hl.ne hlt2) (by omega)).mono ?_
  rintro _ H2 ⟨⟨p, q, dt, rfl, hd, h1, h2⟩, hg⟩
  have b1 := hg.at b0 (by omega)
  obtain ⟨pa, pc, rfl⟩ := hd.sh.own.isSlice
  obtain ⟨qa, qc, rfl⟩ := hd.dt.own.isSlice
  have hl1 := hf.len
  simp only [List.length_append, List.length_cons, List.length_nil] at hl1
  have m1 : ∀ b, blkOf (.slice pa l.length pc) = some b → H.length < b := fun b hb => by have := hd.sh.fr b hb; omega
  have m2 : ∀ b, blkOf (.slice qa dt.length qc) = some b → H.length < b := fun b hb => by have := hd.dt.fr b hb; omega
  have k4 := rd_own (set_at (k' := ⟨[.slice pa l.length pc, .slice qa dt.length qc], .own⟩) b1)
  simp -implicitDefEqProofs only [kz, kk0, kk1, kk2, kk3, ↓two_true, ↓two_false, oS_some, oM_some, mkv, aggAt, Nat.reduceLeDiff, Nat.reduceSub, Nat.reduceMul, implies_true, Nat.reduceEqDiff, reduceIte, Nat.reduceAdd, Nat.reduceBEq, reduceCtorEq, al26, ld26, st26, wrt_own b1, k4]
  refine ⟨⟨_, _, l, dt, rfl, ⟨⟨hd.sh.own.set fun e => by have := m1 _ e; omega, fun b hb => by have := m1 b hb; omega⟩, ⟨hd.dt.own.set fun e => by have := m2 _ e; omega, fun b hb => by have := m2 b hb; omega⟩, hd.dj⟩, hn, h1, h2⟩, ?_⟩
  exact ((Frm.refl hc).app.trans (hf.trans hg)).set b1 (Nat.le_refl _) (by omega)

theorem OwnRow.wr1 {H : AH} {b o : Nat} {cs : List Value} {l : List Int} {k : Nat} {x : Int} (h1 : H[b]? = some ⟨cs, .own⟩) (h2 : o + l.length ≤ cs.length) (h3 : ∀ (i : Nat) x, l[i]? = some x → cs[o + i]? = some (.int .i64 x)) (hk : k < l.length) :
    OwnRow (H.set b ⟨cs.set (o + k) (.int .i64 x), .own⟩) (.slice (some ⟨b, o, none⟩) l.length 1) (l.set k x) := by
  refine .inr ⟨b, o, cs.set (o + k) (.int .i64 x), by rw [List.length_set], set_at h1, by simp; omega, ?_⟩
  refine List.ext_getElem? fun i => ?_
  rw [List.length_set]
  rcases Nat.lt_or_ge i l.length with h | h
  · rw [List.getElem?_take_of_lt h, List.getElem?_drop]
    simp only [ints, List.getElem?_map]
    rcases Nat.eq_or_lt_of_le (Nat.zero_le 0) with _ | h0
    · by_cases e : k = i
      · subst e
        rw [List.getElem?_set_self (by omega), List.getElem?_set_self hk]; rfl
      · rw [List.getElem?_set_ne (by omega), List.getElem?_set_ne e, List.getElem?_eq_getElem h, h3 i _ (List.getElem?_eq_getElem h)]; rfl
    · omega
  · rw [List.getElem?_eq_none (by simp; omega), List.getElem?_eq_none (by simp [ints]; omega)]
theorem nints {n : Nat} : (List.replicate n [Value.int .i64 0]).flatten = ints (List.replicate n 0) := by
  rw [List.flatten_replicate_singleton]; simp [ints]
theorem DR.set {H0 H : AH} {v : Value} {l : List Int} {b : Nat} {k : Blk} (h : DR H0 H v l) (hb : blkOf v ≠ some b) : DR H0 (H.set b k) v l := ⟨h.own.set hb, h.fr⟩
theorem DA.set {H0 H : AH} {p q : Value} {sh dt : List Int} {b : Nat} {k : Blk} (h : DA H0 H p q sh dt) (h1 : blkOf p ≠ some b) (h2 : blkOf q ≠ some b) : DA H0 (H.set b k) p q sh dt := ⟨h.sh.set h1, h.dt.set h2, h.dj⟩
theorem DR.lt {H0 H : AH} {v : Value} {l : List Int} (h : DR H0 H v l) : ∀ b, blkOf v = some b → b < H.length := h.own.lt
theorem ne_of_lt {v : Value} {n b : Nat} (h1 : ∀ b, blkOf v = some b → b < n) (h : n ≤ b) : blkOf v ≠ some b := fun e => by have := h1 b e; omega
theorem ne_of_ge {v : Value} {n b : Nat} (h1 : ∀ b, blkOf v = some b → n ≤ b) (h : b < n) : blkOf v ≠ some b := fun e => by have := h1 b e; omega

theorem l3Draw_ok {H : AH} {cb : Nat} (hc : Cur H cb) : CallsA Try.prog 73 #[.pointer (some ⟨cb, 0, none⟩)] H fun r H' =>
    (∃ p q sh dt, r = .agg #[p, q] ∧ DA H H' p q sh dt ∧ sh.length ≤ 4 ∧ dt.length ≤ 301) ∧ Frm cb H H' := by
  have hlt := hc.lt
  refine w73 ?_
  unfold k73
  simp -implicitDefEqProofs only [kz, kk0, kk1, kk2, kk3, ↓two_true, ↓two_false, oS_some, oM_some, mkv, aggAt, Nat.reduceLeDiff, Nat.reduceSub, Nat.reduceMul, implies_true, Nat.reduceEqDiff, reduceIte, Nat.reduceAdd, Nat.reduceBEq, reduceCtorEq, al26, ap24_24, bd26, bs24_1, fa26_0, fa26_1, ix24, ld24, ld26, ln24, ms24, st3, st24, st26]
  refine (l3DrawRight_ok hc.mono).mono ?_
  rintro _ H1 ⟨⟨p, q, sh, dt, rfl, d, l1, l2, -⟩, hf⟩
  have l2 : dt.length ≤ 300 := by have := sizeI_le (l := sh); omega
  have b0 := hf.at (b := H.length) (by rw [gt0]; rfl) (by omega)
  have hl1 := hf.len
  simp only [List.length_append, List.length_cons, List.length_nil] at hl1
  have hlt2 : cb < (H ++ [⟨[.slice none 0 0, .slice none 0 0], .own⟩] : AH).length := by simp; omega
  obtain ⟨pa, pc, rfl⟩ := d.sh.own.isSlice
  obtain ⟨qa, qc, rfl⟩ := d.dt.own.isSlice
  simp -implicitDefEqProofs only [kz, kk0, kk1, kk2, kk3, ↓two_true, ↓two_false, oS_some, oM_some, mkv, aggAt, Nat.reduceLeDiff, Nat.reduceSub, Nat.reduceMul, implies_true, Nat.reduceEqDiff, reduceIte, Nat.reduceAdd, Nat.reduceBEq, reduceCtorEq, al26, ap24_24, bd26, bs24_1, fa26_0, fa26_1, ix24, ld24, ld26, ln24, ms24, st3, st24, st26]
  have hf := (Frm.refl hc).app.trans hf
  have p1 := d.sh.lt
  have q1 := d.dt.lt
  have p0 : ∀ b, blkOf (.slice pa sh.length pc) = some b → H.length + 1 ≤ b := fun b hb => by have := d.sh.fr b hb; simpa using this
  have q0 : ∀ b, blkOf (.slice qa dt.length qc) = some b → H.length + 1 ≤ b := fun b hb => by have := d.dt.fr b hb; simpa using this
  have d := (d.mono (L := [⟨[.slice pa sh.length pc, .slice qa dt.length qc], .own⟩])).back (H0 := H) (by simp)
  have bo : (H1 ++ [⟨[.slice pa sh.length pc, .slice qa dt.length qc], .own⟩] : AH)[H1.length]? = some ⟨[.slice pa sh.length pc, .slice qa dt.length qc], .own⟩ := by rw [gt0]; rfl
  have hf := hf.app (L := [⟨[.slice pa sh.length pc, .slice qa dt.length qc], .own⟩])
  have b0 := gtl (L := [⟨[.slice pa sh.length pc, .slice qa dt.length qc], .own⟩]) b0
  have hlo : (H1 ++ [⟨[.slice pa sh.length pc, .slice qa dt.length qc], .own⟩] : AH).length = H1.length + 1 := by simp
  generalize (H1 ++ [⟨[.slice pa sh.length pc, .slice qa dt.length qc], .own⟩] : AH) = H2 at *
  refine (l1Below_ok hf.cur).mono ?_
  rintro _ H3 ⟨⟨v, rfl, _⟩, hg⟩
  have hl3 := hg.len
  have d := d.frm hg hlt
  have bo := hg.at bo (by omega)
  have b0 := hg.at b0 (by omega)
  have hf := hf.trans hg
  clear hg
  simp -implicitDefEqProofs only [kz, kk0, kk1, kk2, kk3, ↓two_true, ↓two_false, oS_some, oM_some, mkv, aggAt, Nat.reduceLeDiff, Nat.reduceSub, Nat.reduceMul, implies_true, Nat.reduceEqDiff, reduceIte, Nat.reduceAdd, Nat.reduceBEq, reduceCtorEq, al26, ap24_24, bd26, bs24_1, fa26_0, fa26_1, ix24, ld24, ld26, ln24, ms24, st3, st24, st26]
  refine two_intro (fun h => ?_) (fun h => two_intro (fun h => ?_) (fun h => two_intro (fun h => ?_) (fun h => two_intro (fun h => ?_) (fun h => ?_))))
  · simp -implicitDefEqProofs only [kz, kk0, kk1, kk2, kk3, ↓two_true, ↓two_false, oS_some, oM_some, mkv, aggAt, Nat.reduceLeDiff, Nat.reduceSub, Nat.reduceMul, implies_true, Nat.reduceEqDiff, reduceIte, Nat.reduceAdd, Nat.reduceBEq, reduceCtorEq, al26, ap24_24, bd26, bs24_1, fa26_0, fa26_1, ix24, ld24, ld26, ln24, ms24, st3, st24, st26, rd_own bo]
    refine oA_own d.dt.own.mono intRow1 (by simp; omega) fun a2 c2 H4 o4 x4 => ?_
    have bo4 := x4.at (gtl bo) (ne_of_lt q1 (Nat.le_refl _))
    have b04 := x4.at (gtl b0) (ne_of_ge q0 (by omega))
    have b05 : (H4.set H1.length ⟨[.slice pa sh.length pc, .slice a2 (dt.length + 1) c2], .own⟩)[H.length]? = _ := (List.getElem?_set_ne (by omega)).trans b04
    have e5 := rd_own (set_at (k' := ⟨[.slice pa sh.length pc, .slice a2 (dt.length + 1) c2], .own⟩) bo4)
    have e6 := rd_own (set_at (k' := ⟨[.slice pa sh.length pc, .slice a2 (dt.length + 1) c2], .own⟩) b05)
    simp -implicitDefEqProofs only [kz, kk0, kk1, kk2, kk3, ↓two_true, ↓two_false, oS_some, oM_some, mkv, aggAt, Nat.reduceLeDiff, Nat.reduceSub, Nat.reduceMul, implies_true, Nat.reduceEqDiff, reduceIte, Nat.reduceAdd, Nat.reduceBEq, reduceCtorEq, al26, ap24_24, bd26, bs24_1, fa26_0, fa26_1, ix24, ld24, ld26, ln24, ms24, st3, st24, st26, wrt_own bo4, e5, wrt_own b05, e6]
    have n2 : ∀ b, blkOf (.slice a2 (dt.length + 1) c2) = some b → H.length + 1 ≤ b ∧ b ≠ H1.length := fun b hb => by
      rcases x4.new b hb with h | h
      · have := q0 b h; have := q1 b h; omega
      · simp at h; omega
    have s4 := x4.row d.sh.mono d.dj
    refine ⟨⟨_, _, sh, dt ++ [1], rfl, ⟨(s4.set (ne_of_lt p1 (Nat.le_refl _))).set (ne_of_ge p0 (by omega)), ⟨(o4.set fun e => (n2 _ e).2 rfl).set fun e => ?_, fun b hb => ?_⟩, fun b h1 h2 => ?_⟩, by omega, by simp; omega⟩, ?_⟩
    · have := n2 _ e; omega
    · have := n2 b hb; omega
    · rcases x4.new b h2 with h | h
      · exact d.dj b h1 h
      · have := p1 b h1; simp at h; omega
    · exact ((hf.app.push d.dt.mono hlt x4).set bo4 (by omega) (by omega)).set b05 (Nat.le_refl _) (by omega)
  · refine (l2Draw_ok hf.cur).mono ?_
    rintro _ H4 ⟨⟨l, hl, ln⟩, hg⟩
    obtain ⟨la, lc, rfl⟩ := hl.own.isSlice
    have bo4 := hg.at bo (by omega)
    have b04 := hg.at b0 (by omega)
    have d := d.frm hg hlt
    have b05 : (H4.set H1.length ⟨[.slice la l.length lc, .slice qa dt.length qc], .own⟩)[H.length]? = _ := (List.getElem?_set_ne (by omega)).trans b04
    have e5 := rd_own (set_at (k' := ⟨[.slice la l.length lc, .slice qa dt.length qc], .own⟩) bo4)
    have e6 := rd_own (set_at (k' := ⟨[.slice la l.length lc, .slice qa dt.length qc], .own⟩) b05)
    simp -implicitDefEqProofs only [kz, kk0, kk1, kk2, kk3, ↓two_true, ↓two_false, oS_some, oM_some, mkv, aggAt, Nat.reduceLeDiff, Nat.reduceSub, Nat.reduceMul, implies_true, Nat.reduceEqDiff, reduceIte, Nat.reduceAdd, Nat.reduceBEq, reduceCtorEq, al26, ap24_24, bd26, bs24_1, fa26_0, fa26_1, ix24, ld24, ld26, ln24, ms24, st3, st24, st26, wrt_own bo4, e5, wrt_own b05, e6]
    have n2 : ∀ b, blkOf (.slice la l.length lc) = some b → H3.length ≤ b := hl.fr
    refine ⟨⟨_, _, l, dt, rfl, ⟨((hl.back (by omega)).set (ne_of_ge n2 (by omega))).set (ne_of_ge n2 (by omega)), (d.dt.set (ne_of_lt q1 (Nat.le_refl _))).set (ne_of_ge q0 (by omega)), fun b h1 h2 => ?_⟩, by omega, by omega⟩, ?_⟩
    · have := n2 b h1; have := q1 b h2; omega
    · exact ((hf.trans hg).set bo4 (by omega) (by omega)).set b05 (Nat.le_refl _) (by omega)
  · simp -implicitDefEqProofs only [kz, kk0, kk1, kk2, kk3, ↓two_true, ↓two_false, oS_some, oM_some, mkv, aggAt, Nat.reduceLeDiff, Nat.reduceSub, Nat.reduceMul, implies_true, Nat.reduceEqDiff, reduceIte, Nat.reduceAdd, Nat.reduceBEq, reduceCtorEq, al26, ap24_24, bd26, bs24_1, fa26_0, fa26_1, ix24, ld24, ld26, ln24, ms24, st3, st24, st26, rd_own bo]
    refine two_intro (fun h => ?_) (fun h => ?_)
    · have hpos : 0 < dt.length := by simpa using h
      refine (l1Below_ok hf.cur).mono ?_
      rintro _ H4 ⟨⟨k, rfl, _, hk⟩, hg⟩
      have hk := hk (by omega)
      obtain ⟨k, rfl⟩ : ∃ j : Nat, k = j := ⟨k.toNat, by omega⟩
      have bo4 := hg.at bo (by omega)
      have b04 := hg.at b0 (by omega)
      have d := d.frm hg hlt
      have hf := hf.trans hg
      simp -implicitDefEqProofs only [kz, kk0, kk1, kk2, kk3, ↓two_true, ↓two_false, oS_some, oM_some, mkv, aggAt, Nat.reduceLeDiff, Nat.reduceSub, Nat.reduceMul, implies_true, Nat.reduceEqDiff, reduceIte, Nat.reduceAdd, Nat.reduceBEq, reduceCtorEq, al26, ap24_24, bd26, bs24_1, fa26_0, fa26_1, ix24, ld24, ld26, ln24, ms24, st3, st24, st26, rd_own bo, rd_own bo4]
      refine (l1DrawRaw_ok hf.cur).mono ?_
      rintro _ H5 ⟨⟨x, rfl, _⟩, hg⟩
      have bo5 := hg.at bo4 (by omega)
      have b05 := hg.at b04 (by omega)
      have d := d.frm hg hlt
      have hf := hf.trans hg
      obtain ⟨b, o, cs, hqv, hb, hle, hcs⟩ := d.dt.own.blk hpos
      injection hqv with e1 _ e2
      subst e1; subst e2
      have hbq := q1 b rfl
      have hbp := q0 b rfl
      have bo6 : (H5.set b ⟨cs.set (o + k) (.int .i64 x), .own⟩)[H1.length]? = _ := (List.getElem?_set_ne (by omega)).trans bo5
      have b06 : (H5.set b ⟨cs.set (o + k) (.int .i64 x), .own⟩)[H.length]? = _ := (List.getElem?_set_ne (by omega)).trans b05
      have e7 := rd_own (set_at (k' := ⟨[.slice pa sh.length pc, .slice (some ⟨b, o, none⟩) dt.length 1], .own⟩) b06)
      simp -implicitDefEqProofs only [kz, kk0, kk1, kk2, kk3, ↓two_true, ↓two_false, oS_some, oM_some, mkv, aggAt, Nat.reduceLeDiff, Nat.reduceSub, Nat.reduceMul, implies_true, Nat.reduceEqDiff, reduceIte, Nat.reduceAdd, Nat.reduceBEq, reduceCtorEq, al26, ap24_24, bd26, bs24_1, fa26_0, fa26_1, ix24, ld24, ld26, ln24, ms24, st3, st24, st26, rd_own bo, rd_own bo4, rd_own bo5, Int.toNat_natCast, Nat.mul_one, wrt_own hb, rd_own bo6, wrt_own b06, e7]
      have hkl : k < dt.length := by omega
      have w := OwnRow.wr1 (x := x) hb hle hcs hkl
      refine ⟨⟨by omega, by omega⟩, by omega, ⟨⟨_, _, sh, dt.set k x, rfl, ⟨(d.sh.set fun e => d.dj b e rfl).set (ne_of_ge p0 (by omega)), ⟨w.set (ne_of_ge q0 (by omega)), d.dt.fr⟩, d.dj⟩, by omega, by simp; omega⟩, ?_⟩⟩
      exact (hf.set hb (by omega) (by omega)).set b06 (Nat.le_refl _) (by omega)
    · have e7 := rd_own (set_at (k' := ⟨[.slice pa sh.length pc, .slice qa dt.length qc], .own⟩) b0)
      simp -implicitDefEqProofs only [kz, kk0, kk1, kk2, kk3, ↓two_true, ↓two_false, oS_some, oM_some, mkv, aggAt, Nat.reduceLeDiff, Nat.reduceSub, Nat.reduceMul, implies_true, Nat.reduceEqDiff, reduceIte, Nat.reduceAdd, Nat.reduceBEq, reduceCtorEq, al26, ap24_24, bd26, bs24_1, fa26_0, fa26_1, ix24, ld24, ld26, ln24, ms24, st3, st24, st26, rd_own bo, wrt_own b0, e7]
      exact ⟨⟨_, _, sh, dt, rfl, d.set (ne_of_ge p0 (by omega)) (ne_of_ge q0 (by omega)), by omega, by omega⟩, hf.set b0 (Nat.le_refl _) (by omega)⟩
  · refine (l1Below_ok hf.cur.mono).mono ?_
    rintro _ H4 ⟨⟨k, rfl, _, hk⟩, hg⟩
    have hk := hk (by omega)
    simp -implicitDefEqProofs only [kz, kk0, kk1, kk2, kk3, ↓two_true, ↓two_false, oS_some, oM_some, mkv, aggAt, Nat.reduceLeDiff, Nat.reduceSub, Nat.reduceMul, implies_true, Nat.reduceEqDiff, reduceIte, Nat.reduceAdd, Nat.reduceBEq, reduceCtorEq, al26, ap24_24, bd26, bs24_1, fa26_0, fa26_1, ix24, ld24, ld26, ln24, ms24, st3, st24, st26, rd_own bo]
    rw [IntWalk.i64_in (300 + k) (by omega)]
    obtain ⟨n, hn⟩ : ∃ n : Nat, n = (300 + k).toNat := ⟨_, rfl⟩
    rw [← hn, nints]
    have hg0 : Frm cb H H4 := hf.app.trans hg
    have o300 : OwnRow H4 (.slice (some ⟨H3.length, 0, none⟩) 1 1) [300] := hg.own (OwnRow.new (l := [300])) (by simp [blkOf]; omega)
    have hl4 := hg.len
    simp only [List.length_append, List.length_cons, List.length_nil] at hl4
    have bo4 := gtl (L := [⟨ints (List.replicate n 0), .own⟩]) (hg.at (gtl bo) (by omega))
    have b04 := gtl (L := [⟨ints (List.replicate n 0), .own⟩]) (hg.at (gtl b0) (by omega))
    have on : OwnRow (H4 ++ [⟨ints (List.replicate n 0), .own⟩]) (.slice (some ⟨H4.length, 0, none⟩) n 1) (List.replicate n 0) := by
      have := OwnRow.new (H := H4) (l := List.replicate n 0)
      rwa [List.length_replicate] at this
    have o301 := o300.mono (L := [⟨ints (List.replicate n 0), .own⟩])
    have hf5 := hg0.app (L := [⟨ints (List.replicate n 0), .own⟩])
    refine ⟨by omega, ?_⟩
    generalize (H4 ++ [⟨ints (List.replicate n 0), .own⟩] : AH) = H5 at *
    have b05 : (H5.set H1.length ⟨[.slice (some ⟨H3.length, 0, none⟩) 1 1, .slice (some ⟨H4.length, 0, none⟩) n 1], .own⟩)[H.length]? = _ := (List.getElem?_set_ne (by omega)).trans b04
    have e5 := rd_own (set_at (k' := ⟨[.slice (some ⟨H3.length, 0, none⟩) 1 1, .slice (some ⟨H4.length, 0, none⟩) n 1], .own⟩) bo4)
    have e6 := rd_own (set_at (k' := ⟨[.slice (some ⟨H3.length, 0, none⟩) 1 1, .slice (some ⟨H4.length, 0, none⟩) n 1], .own⟩) b05)
    simp -implicitDefEqProofs only [kz, kk0, kk1, kk2, kk3, ↓two_true, ↓two_false, oS_some, oM_some, mkv, aggAt, Nat.reduceLeDiff, Nat.reduceSub, Nat.reduceMul, implies_true, Nat.reduceEqDiff, reduceIte, Nat.reduceAdd, Nat.reduceBEq, reduceCtorEq, al26, ap24_24, bd26, bs24_1, fa26_0, fa26_1, ix24, ld24, ld26, ln24, ms24, st3, st24, st26, wrt_own bo4, e5, wrt_own b05, e6]
    have m1 : ∀ b, blkOf (.slice (some ⟨H3.length, 0, none⟩) 1 1) = some b → b = H3.length := fun b hb => by simp [blkOf] at hb; omega
    have m2 : ∀ b, blkOf (.slice (some ⟨H4.length, 0, none⟩) n 1) = some b → b = H4.length := fun b hb => by simp [blkOf] at hb; omega
    refine ⟨⟨_, _, [300], List.replicate n 0, rfl, ⟨⟨(o301.set fun e => ?_).set fun e => ?_, fun b hb => ?_⟩, ⟨(on.set fun e => ?_).set fun e => ?_, fun b hb => ?_⟩, fun b h1 h2 => ?_⟩, by simp, by simp; omega⟩, ?_⟩
    · have := m1 _ e; omega
    · have := m1 _ e; omega
    · have := m1 _ hb; omega
    · have := m2 _ e; omega
    · have := m2 _ e; omega
    · have := m2 _ hb; omega
    · have := m1 _ h1; have := m2 _ h2; omega
    · exact (hf5.set bo4 (by omega) (by omega)).set b05 (Nat.le_refl _) (by omega)
  · have e7 := rd_own (set_at (k' := ⟨[.slice pa sh.length pc, .slice qa dt.length qc], .own⟩) b0)
    simp -implicitDefEqProofs only [kz, kk0, kk1, kk2, kk3, ↓two_true, ↓two_false, oS_some, oM_some, mkv, aggAt, Nat.reduceLeDiff, Nat.reduceSub, Nat.reduceMul, implies_true, Nat.reduceEqDiff, reduceIte, Nat.reduceAdd, Nat.reduceBEq, reduceCtorEq, al26, ap24_24, bd26, bs24_1, fa26_0, fa26_1, ix24, ld24, ld26, ln24, ms24, st3, st24, st26, rd_own bo, wrt_own b0, e7]
    exact ⟨⟨_, _, sh, dt, rfl, d.set (ne_of_ge p0 (by omega)) (ne_of_ge q0 (by omega)), by omega, by omega⟩, hf.set b0 (Nat.le_refl _) (by omega)⟩

inductive It where
  | box (o : Nat) (cs : List Value)
  | row (v : Value) (l : List Int)
  | cmp (x : Comp) (V : List CV)
def It.ok (H : AH) : It → Prop
  | .box o cs => H[o]? = some ⟨cs, .own⟩
  | .row v l => OwnRow H v l
  | .cmp x V => x.own H ∧ cvs H x.xs = V
def It.bs : It → Nat → Prop
  | .box o _, b => b = o
  | .row v _, b => blkOf v = some b
  | .cmp x _, b => x.bs b
theorem It.ok.same {H H' : AH} {x : It} (h : x.ok H) (hs : ∀ b, x.bs b → H'[b]? = H[b]?) : x.ok H' := by
  cases x with
  | box o cs => show H'[o]? = _; rw [hs o rfl]; exact h
  | row v l => exact OwnRow.same h hs
  | cmp x V => exact ⟨h.1.same hs, by rw [(Comp.rd.same h.1.rd hs).2]; exact h.2⟩
theorem OwnC.ownb {H : AH} {y : Value} (h : OwnC H y) : ∀ b, blkOf y = some b → ∃ cs, H[b]? = some (⟨cs, .own⟩ : Blk) := by
  intro b hb
  rcases h with ⟨n, rfl⟩ | ⟨n, rfl⟩ | ⟨e, _⟩ | ⟨b', o, cs, e, h2, _⟩
  · simp [blkOf] at hb
  · simp [blkOf] at hb
  · rw [e] at hb; simp [blkOf] at hb
  · rw [e] at hb; simp [blkOf] at hb; subst hb; exact ⟨cs, h2⟩
theorem It.ok.ownb {H : AH} {x : It} (h : x.ok H) : ∀ b, x.bs b → ∃ cs, H[b]? = some (⟨cs, .own⟩ : Blk) := by
  intro b hb
  cases x with
  | box o cs => cases hb; exact ⟨cs, h⟩
  | row v l =>
    rcases h with ⟨e, _⟩ | ⟨b', o, cs, e, h2, _⟩
    · rw [e] at hb; simp [It.bs, blkOf] at hb
    · rw [e] at hb; simp [It.bs, blkOf] at hb; subst hb; exact ⟨cs, h2⟩
  | cmp x V =>
    obtain ⟨h, _⟩ := h
    cases x with
    | cells ks xs =>
      obtain ⟨y, hy, e⟩ := hb
      exact (h.2.1 y hy).ownb b e
    | row v ks n xs =>
      rcases hb with hb | ⟨y, hy, e⟩
      · rcases (show OT H v ks n xs from h).row with ⟨h1, _⟩ | ⟨b', o, cs, h1, h2, h3⟩
        · rw [h1] at hb; simp [blkOf] at hb
        · rw [h1] at hb; simp [blkOf] at hb; subst hb; exact ⟨cs, h2⟩
      · obtain ⟨j, hj⟩ := List.mem_iff_getElem?.1 hy
        exact ((show OT H v ks n xs from h).own j y hj).ownb b e
theorem It.ok.lt {H : AH} {x : It} (h : x.ok H) : ∀ b, x.bs b → b < H.length := fun b hb => by
  obtain ⟨cs, h⟩ := h.ownb b hb
  exact (List.getElem?_eq_some_iff.1 h).1
/-- What a function holds: each by itself, none older than the call; a cursor may be there too. -/
structure LD (c : Option Nat) (H0 H : AH) (L : List It) : Prop where
  ok : ∀ (i : Nat) x, L[i]? = some x → x.ok H
  fr : ∀ (i : Nat) x, L[i]? = some x → ∀ b, x.bs b → H0.length ≤ b
  dj : ∀ (i j : Nat) x y, i ≠ j → L[i]? = some x → L[j]? = some y → ∀ b, x.bs b → ¬ y.bs b
  len : H0.length ≤ H.length
  keep : ∀ b, b < H0.length → c ≠ some b → H[b]? = H0[b]?
  cur : ∀ cb, c = some cb → Cur H cb
  nc : ∀ cb, c = some cb → ∀ (i : Nat) x, L[i]? = some x → ¬ x.bs cb
theorem LD.ext {H0 H : AH} {L : List It} (h : LD none H0 H L) : ∃ K, H = H0 ++ K := ext_of h.len fun b hb => h.keep b hb (by simp)
theorem LD.frm {cb : Nat} {H0 H : AH} {L : List It} (h : LD (some cb) H0 H L) : Frm cb H0 H := ⟨h.len, fun b hb hn => h.keep b hb (by simpa using Ne.symm hn), h.cur cb rfl⟩
theorem LD.nil {H : AH} : LD none H H [] := ⟨fun i x h => by simp at h, fun i x h => by simp at h, fun i j x y _ h => by simp at h, Nat.le_refl _, fun _ _ _ => rfl, fun _ h => by simp at h, fun _ h => by simp at h⟩
theorem LD.nilc {H : AH} {cb : Nat} (h : Cur H cb) : LD (some cb) H H [] := ⟨fun i x h => by simp at h, fun i x h => by simp at h, fun i j x y _ h => by simp at h, Nat.le_refl _, fun _ _ _ => rfl, fun b hb => by cases hb; exact h, fun _ _ i x h => by simp at h⟩
/-- Something new comes. -/
theorem LD.add {c : Option Nat} {H0 H H' : AH} {L : List It} {x : It} (h : LD c H0 H L) (hl : H.length ≤ H'.length) (hk : ∀ b, b < H.length → c ≠ some b → H'[b]? = H[b]?) (hc : ∀ cb, c = some cb → Cur H' cb) (hx : x.ok H') (hb : ∀ b, x.bs b → H.length ≤ b) : LD c H0 H' (x :: L) := by
  have same : ∀ (i : Nat) y, L[i]? = some y → y.ok H' := fun i y hy => (h.ok i y hy).same fun b hb => hk b ((h.ok i y hy).lt b hb) fun e => h.nc b e i y hy hb
  refine ⟨?_, ?_, ?_, Nat.le_trans h.len hl, fun b hb hn => ?_, hc, fun cb e => ?_⟩
  · rintro (_ | i) y hy
    · cases hy; exact hx
    · exact same i y hy
  · rintro (_ | i) y hy b hb2
    · cases hy; exact Nat.le_trans h.len (hb b hb2)
    · exact h.fr i y hy b hb2
  · rintro (_ | i) (_ | j) y z hne hy hz b h1 h2
    · exact hne rfl
    · cases hy; have := hb b h1; have := (h.ok j z hz).lt b h2; omega
    · cases hz; have := hb b h2; have := (h.ok i y hy).lt b h1; omega
    · exact h.dj i j y z (by omega) hy hz b h1 h2
  · rw [hk b (Nat.lt_of_lt_of_le hb h.len) hn, h.keep b hb hn]
  · rintro (_ | i) y hy h2
    · cases hy; have := hb cb h2; have := (h.cur cb e).lt; omega
    · exact h.nc cb e i y hy h2
theorem LD.tail {c : Option Nat} {H0 H : AH} {L : List It} {x : It} (h : LD c H0 H (x :: L)) : LD c H0 H L :=
  ⟨fun i y hy => h.ok (i + 1) y hy, fun i y hy => h.fr (i + 1) y hy, fun i j y z hne hy hz => h.dj (i + 1) (j + 1) y z (by omega) hy hz, h.len, h.keep, h.cur, fun cb e i y hy => h.nc cb e (i + 1) y hy⟩
theorem LD.call {cb : Nat} {H0 H H' : AH} {L : List It} (h : LD (some cb) H0 H L) (hf : Frm cb H H') : LD (some cb) H0 H' L :=
  (h.add (x := .row (.slice none 0 0) []) hf.len (fun b hb hn => hf.keep b hb (by simpa using Ne.symm hn)) (fun g e => by cases e; exact hf.cur) OwnRow.nil fun b hb => by simp [It.bs, blkOf] at hb).tail
theorem LD.extd {c : Option Nat} {H0 H H' : AH} {L : List It} (h : LD c H0 H L) (hf : ∃ K, H' = H ++ K) : LD c H0 H' L := by
  obtain ⟨K, rfl⟩ := hf
  exact (h.add (x := .row (.slice none 0 0) []) (by simp) (fun b hb _ => List.getElem?_append_left hb) (fun g e => (h.cur g e).mono) OwnRow.nil fun b hb => by simp [It.bs, blkOf] at hb).tail
theorem LD.box {c : Option Nat} {H0 H : AH} {L : List It} (h : LD c H0 H L) (cs : List Value) : LD c H0 (H ++ [⟨cs, .own⟩]) (.box H.length cs :: L) :=
  h.add (by simp) (fun b hb _ => List.getElem?_append_left hb) (fun g e => (h.cur g e).mono) (by show (H ++ [⟨cs, .own⟩])[H.length]? = _; rw [gt0]; rfl) fun b hb => by cases hb; exact Nat.le_refl _
/-- A row that a call that draws has made. -/
theorem LD.dr {cb : Nat} {H0 H H' : AH} {L : List It} {v : Value} {l : List Int} (h : LD (some cb) H0 H L) (hv : DR H H' v l) (hf : Frm cb H H') : LD (some cb) H0 H' (.row v l :: L) :=
  h.add hf.len (fun b hb hn => hf.keep b hb (by simpa using Ne.symm hn)) (fun g e => by cases e; exact hf.cur) hv.own hv.fr
theorem LD.nrow {c : Option Nat} {H0 H H' : AH} {L : List It} {v : Value} {l : List Int} (h : LD c H0 H L) (hv : DR H H' v l) (hf : ∃ K, H' = H ++ K) : LD c H0 H' (.row v l :: L) := by
  obtain ⟨K, rfl⟩ := hf
  exact h.add (by simp) (fun b hb _ => List.getElem?_append_left hb) (fun g e => (h.cur g e).mono) hv.own hv.fr
theorem LD.lit {c : Option Nat} {H0 H : AH} {L : List It} {cs : List Value} {n : Nat} (h : LD c H0 H L) (l : List Int) (he : cs = ints l) (hn : n = l.length) : LD c H0 (H ++ [⟨cs, .own⟩]) (.row (.slice (some ⟨H.length, 0, none⟩) n 1) l :: L) :=
  h.nrow (DR.lit l (Nat.le_refl _) he hn) ⟨_, rfl⟩
theorem LD.nrow2 {c : Option Nat} {H0 H H' : AH} {L : List It} {v w : Value} {l m : List Int} (h : LD c H0 H L) (hv : DR H H' v l) (hw : DR H H' w m) (hd : Dj v w) (hf : ∃ K, H' = H ++ K) : LD c H0 H' (.row v l :: .row w m :: L) := by
  have h1 := h.nrow hv hf
  have h2 := h.nrow hw hf
  refine ⟨?_, ?_, ?_, h1.len, h1.keep, h1.cur, fun cb e => ?_⟩
  · rintro (_ | i) y hy
    · cases hy; exact hv.own
    · exact h2.ok i y hy
  · rintro (_ | i) y hy b hb
    · cases hy; exact h1.fr 0 _ rfl b hb
    · exact h2.fr i y hy b hb
  · rintro (_ | _ | i) (_ | _ | j) y z hne hy hz b e1 e2
    · exact hne rfl
    · cases hy; cases hz; exact hd b e1 e2
    · exact h1.dj 0 (j + 1) y z (by omega) hy hz b e1 e2
    · cases hy; cases hz; exact hd b e2 e1
    · exact hne rfl
    · exact h2.dj 0 (j + 1) y z (by omega) hy hz b e1 e2
    · exact h1.dj (i + 1) 0 y z (by omega) hy hz b e1 e2
    · exact h2.dj (i + 1) 0 y z (by omega) hy hz b e1 e2
    · exact h1.dj (i + 1) (j + 1) y z (by omega) hy hz b e1 e2
  · rintro (_ | i) y hy
    · cases hy; exact h1.nc cb e 0 _ rfl
    · exact h2.nc cb e i y hy
theorem LD.aown {c : Option Nat} {H0 H H' : AH} {L : List It} {p q v : Value} {sh dt : List Int} (h : LD c H0 H L) (ha : AOwn H H' v sh dt p q) (hf : ∃ K, H' = H ++ K) : LD c H0 H' (.row p sh :: .row q dt :: L) :=
  h.nrow2 ⟨ha.sh, ha.n1⟩ ⟨ha.dt, ha.n2⟩ ha.dj hf
theorem LD.da {cb : Nat} {H0 H H' : AH} {L : List It} {p q : Value} {sh dt : List Int} (h : LD (some cb) H0 H L) (ha : DA H H' p q sh dt) (hf : Frm cb H H') : LD (some cb) H0 H' (.row p sh :: .row q dt :: L) := by
  have h1 := h.dr ha.sh hf
  have h2 := h.dr ha.dt hf
  have := (h.call hf)
  refine ⟨?_, ?_, ?_, h1.len, h1.keep, h1.cur, fun cb e => ?_⟩
  · rintro (_ | i) y hy
    · cases hy; exact ha.sh.own
    · exact h2.ok i y hy
  · rintro (_ | i) y hy b hb
    · cases hy; exact h1.fr 0 _ rfl b hb
    · exact h2.fr i y hy b hb
  · rintro (_ | _ | i) (_ | _ | j) y z hne hy hz b e1 e2
    · exact hne rfl
    · cases hy; cases hz; exact ha.dj b e1 e2
    · exact h1.dj 0 (j + 1) y z (by omega) hy hz b e1 e2
    · cases hy; cases hz; exact ha.dj b e2 e1
    · exact hne rfl
    · exact h2.dj 0 (j + 1) y z (by omega) hy hz b e1 e2
    · exact h1.dj (i + 1) 0 y z (by omega) hy hz b e1 e2
    · exact h2.dj (i + 1) 0 y z (by omega) hy hz b e1 e2
    · exact h1.dj (i + 1) (j + 1) y z (by omega) hy hz b e1 e2
  · rintro (_ | i) y hy
    · cases hy; exact h1.nc cb e 0 _ rfl
    · exact h2.nc cb e i y hy
theorem LD.rd {c : Option Nat} {H0 H : AH} {L : List It} {o : Nat} {cs : List Value} (h : LD c H0 H L) (i : Nat) (hi : L[i]? = some (.box o cs)) : rd H o = some cs ∧ wrt H o = some cs :=
  ⟨rd_own (h.ok i _ hi), wrt_own (h.ok i _ hi)⟩
theorem LD.own {c : Option Nat} {H0 H : AH} {L : List It} {v : Value} {l : List Int} (h : LD c H0 H L) (i : Nat) (hi : L[i]? = some (.row v l)) : OwnRow H v l := h.ok i _ hi
/-- One thing is turned. -/
theorem LD.upd {c : Option Nat} {H0 H H' : AH} {L : List It} {x x' : It} (h : LD c H0 H L) (i : Nat) (hi : L[i]? = some x) (hl : H.length ≤ H'.length) (hk : ∀ b, b < H.length → ¬ x.bs b → H'[b]? = H[b]?) (hx : x'.ok H') (hb : ∀ b, x'.bs b → x.bs b ∨ H.length ≤ b) : LD c H0 H' (L.set i x') := by
  have hil := (List.getElem?_eq_some_iff.1 hi).1
  have get : ∀ (j : Nat) y, (L.set i x')[j]? = some y → (j = i ∧ y = x') ∨ (j ≠ i ∧ L[j]? = some y) := fun j y hy => by
    rcases Nat.decEq i j with e | e
    · rw [List.getElem?_set_ne e] at hy; exact .inr ⟨Ne.symm e, hy⟩
    · subst e; rw [List.getElem?_set_self hil] at hy; cases hy; exact .inl ⟨rfl, rfl⟩
  refine ⟨fun j y hy => ?_, fun j y hy b hb2 => ?_, fun j k y z hne hy hz b e1 e2 => ?_, Nat.le_trans h.len hl, fun b hb2 hn => ?_, fun cb e => ?_, fun cb e j y hy h2 => ?_⟩
  · rcases get j y hy with ⟨rfl, rfl⟩ | ⟨hne, hy⟩
    · exact hx
    · exact (h.ok j y hy).same fun b hb2 => hk b ((h.ok j y hy).lt b hb2) (h.dj j i y x hne hy hi b hb2)
  · rcases get j y hy with ⟨rfl, rfl⟩ | ⟨hne, hy⟩
    · exact (hb b hb2).elim (h.fr j x hi b) fun h2 => Nat.le_trans h.len h2
    · exact h.fr j y hy b hb2
  · rcases get j y hy with ⟨rfl, rfl⟩ | ⟨hne1, hy'⟩
    · rcases get k z hz with ⟨rfl, rfl⟩ | ⟨hne2, hz⟩
      · exact hne rfl
      · exact (hb b e1).elim (fun e1 => h.dj j k x z hne hi hz b e1 e2) fun e1 => by have := (h.ok k z hz).lt b e2; omega
    · rcases get k z hz with ⟨rfl, rfl⟩ | ⟨hne2, hz⟩
      · exact (hb b e2).elim (fun e2 => h.dj j k y x hne hy' hi b e1 e2) fun e2 => by have := (h.ok j y hy').lt b e1; omega
      · exact h.dj j k y z hne hy' hz b e1 e2
  · rw [hk b (Nat.lt_of_lt_of_le hb2 h.len) fun e => by have := h.fr i x hi b e; omega, h.keep b hb2 hn]
  · have h2 := h.cur cb e
    refine h2.same (hk cb h2.lt (h.nc cb e i x hi)) fun b cs hb2 => ?_
    rw [hk b (List.getElem?_eq_some_iff.1 hb2).1 fun e => ?_]
    · exact hb2
    · obtain ⟨cs', h3⟩ := (h.ok i x hi).ownb b e
      rw [hb2] at h3; cases h3
  · rcases get j y hy with ⟨rfl, rfl⟩ | ⟨hne1, hy'⟩
    · exact (hb cb h2).elim (h.nc cb e j x hi) fun h3 => by have := (h.cur cb e).lt; omega
    · exact h.nc cb e j y hy' h2
theorem LD.cursor {H0 H H' : AH} {L : List It} {cb : Nat} (h : LD none H0 H L) (hf : ∃ K, H' = H ++ K) (hc : Cur H' cb) (hb : H.length ≤ cb) : LD (some cb) H0 H' L := by
  have h1 := h.extd hf
  exact ⟨h1.ok, h1.fr, h1.dj, h1.len, fun b hb _ => h1.keep b hb (by simp), fun g e => by cases e; exact hc, fun g e i x hx h2 => by cases e; have := (h.ok i x hx).lt _ h2; omega⟩
theorem LD.out {H0 H : AH} {L : List It} {cb : Nat} (h : LD (some cb) H0 H L) (hb : H0.length ≤ cb) : LD none H0 H L :=
  ⟨h.ok, h.fr, h.dj, h.len, fun b hb2 _ => h.keep b hb2 (by simp; omega), fun _ e => by simp at e, fun _ e => by simp at e⟩
theorem LD.set {c : Option Nat} {H0 H : AH} {L : List It} {o : Nat} {cs : List Value} (h : LD c H0 H L) (i : Nat) (hi : L[i]? = some (.box o cs)) (cs' : List Value) : LD c H0 (H.set o ⟨cs', .own⟩) (L.set i (.box o cs')) :=
  h.upd i hi (by simp) (fun b hb hn => List.getElem?_set_ne (fun e => hn e.symm)) (set_at (h.ok i _ hi)) fun b hb => .inl hb
theorem LD.push {c : Option Nat} {H0 H H' : AH} {L : List It} {v v' : Value} {l m : List Int} (h : LD c H0 H L) (i : Nat) (hi : L[i]? = some (.row v l)) (ho : OwnRow H' v' m) (ha : App H v H' v') : LD c H0 H' (L.set i (.row v' m)) :=
  h.upd i hi ha.len ha.keep ho ha.new
theorem LD.wr1 {c : Option Nat} {H0 H : AH} {L : List It} {b o : Nat} {cs : List Value} {l : List Int} {k : Nat} {x : Int} (h : LD c H0 H L) (i : Nat) (hi : L[i]? = some (.row (.slice (some ⟨b, o, none⟩) l.length 1) l)) (h1 : H[b]? = some ⟨cs, .own⟩) (h2 : o + l.length ≤ cs.length) (h3 : ∀ (i : Nat) x, l[i]? = some x → cs[o + i]? = some (.int .i64 x)) (hk : k < l.length) :
    LD c H0 (H.set b ⟨cs.set (o + k) (.int .i64 x), .own⟩) (L.set i (.row (.slice (some ⟨b, o, none⟩) l.length 1) (l.set k x))) :=
  h.upd i hi (by simp) (fun g hg hn => List.getElem?_set_ne (fun e => hn (by rw [← e]; rfl))) (OwnRow.wr1 h1 h2 h3 hk) fun g hg => .inl hg
theorem LD.join {c : Option Nat} {H0 H H' : AH} {L L' : List It} (h : LD c H0 H L) (g : LD none H H' L') : LD c H0 H' (L' ++ L) := by
  have h1 := h.extd g.ext
  have get : ∀ (i : Nat) x, (L' ++ L)[i]? = some x → (i < L'.length ∧ L'[i]? = some x) ∨ (L'.length ≤ i ∧ L[i - L'.length]? = some x) := fun i x hx => by
    rcases Nat.lt_or_ge i L'.length with e | e
    · rw [List.getElem?_append_left e] at hx; exact .inl ⟨e, hx⟩
    · rw [List.getElem?_append_right e] at hx; exact .inr ⟨e, hx⟩
  refine ⟨fun i x hx => ?_, fun i x hx b hb => ?_, fun i j x y hne hx hy b e1 e2 => ?_, h1.len, h1.keep, h1.cur, fun cb e i x hx hb => ?_⟩
  · rcases get i x hx with ⟨_, hx⟩ | ⟨_, hx⟩
    · exact g.ok _ x hx
    · exact h1.ok _ x hx
  · rcases get i x hx with ⟨_, hx⟩ | ⟨_, hx⟩
    · exact Nat.le_trans h.len (g.fr _ x hx b hb)
    · exact h1.fr _ x hx b hb
  · rcases get i x hx with ⟨a1, hx⟩ | ⟨a1, hx⟩ <;> rcases get j y hy with ⟨a2, hy⟩ | ⟨a2, hy⟩
    · exact g.dj i j x y hne hx hy b e1 e2
    · have := g.fr _ x hx b e1; have := (h.ok _ y hy).lt b e2; omega
    · have := g.fr _ y hy b e2; have := (h.ok _ x hx).lt b e1; omega
    · exact h1.dj _ _ x y (by omega) hx hy b e1 e2
  · rcases get i x hx with ⟨_, hx⟩ | ⟨_, hx⟩
    · have := g.fr _ x hx cb hb; have := (h.cur cb e).lt; omega
    · exact h1.nc cb e _ x hx hb
def pickL (L : List It) (is : List Nat) : List It := is.map fun i => (L[i]?).getD (.row (.slice none 0 0) [])
theorem LD.pick {c : Option Nat} {H0 H : AH} {L : List It} (h : LD c H0 H L) (is : List Nat) (hn : is.Nodup) : LD c H0 H (pickL L is) := by
  have get : ∀ (j : Nat) x, (pickL L is)[j]? = some x → ∃ i, is[j]? = some i ∧ (L[i]? = some x ∨ x = .row (.slice none 0 0) []) := fun j x hx => by
    simp only [pickL, List.getElem?_map, Option.map_eq_some_iff] at hx
    obtain ⟨i, hi, rfl⟩ := hx
    refine ⟨i, hi, ?_⟩
    cases hL : L[i]? with
    | none => exact .inr rfl
    | some y => exact .inl rfl
  have nob : ∀ b, ¬ (It.row (.slice none 0 0) []).bs b := fun b hb => by simp [It.bs, blkOf] at hb
  refine ⟨fun j x hx => ?_, fun j x hx b hb => ?_, fun j k x y hne hx hy b e1 e2 => ?_, h.len, h.keep, h.cur, fun cb e j x hx hb => ?_⟩
  · obtain ⟨i, _, h1 | rfl⟩ := get j x hx
    · exact h.ok i x h1
    · exact OwnRow.nil
  · obtain ⟨i, _, h1 | rfl⟩ := get j x hx
    · exact h.fr i x h1 b hb
    · exact (nob b hb).elim
  · obtain ⟨i, hi, h1 | rfl⟩ := get j x hx
    · obtain ⟨i', hi', h1' | rfl⟩ := get k y hy
      · refine h.dj i i' x y ?_ h1 h1' b e1 e2
        rintro rfl
        obtain ⟨l1, l2⟩ := List.getElem?_eq_some_iff.1 hi
        obtain ⟨l3, l4⟩ := List.getElem?_eq_some_iff.1 hi'
        have hp := List.pairwise_iff_getElem.1 hn
        rcases Nat.lt_or_gt_of_ne hne with e | e
        · exact hp _ _ l1 l3 e (l2.trans l4.symm)
        · exact hp _ _ l3 l1 e (l4.trans l2.symm)
      · exact nob b e2
    · exact nob b e1
  · obtain ⟨i, _, h1 | rfl⟩ := get j x hx
    · exact h.nc cb e i x h1 hb
    · exact nob cb hb
/-- One number of a row is written. -/
theorem LD.wr {c : Option Nat} {H0 H : AH} {L : List It} {v : Value} {l : List Int} {k : Nat} (h : LD c H0 H L) (i : Nat) (hi : L[i]? = some (.row v l)) (hk : k < l.length) :
    ∃ b o cs, v = .slice (some ⟨b, o, none⟩) l.length 1 ∧ wrt H b = some cs ∧ Go.Proofs.Ytockhdhilemfkaa.AM.rd H b = some cs ∧ o + l.length ≤ cs.length ∧ (∀ (i : Nat) x, l[i]? = some x → cs[o + i]? = some (.int .i64 x)) ∧ ∀ x, LD c H0 (H.set b ⟨cs.set (o + k) (.int .i64 x), .own⟩) (L.set i (.row v (l.set k x))) := by
  obtain ⟨b, o, cs, rfl, h1, h2, h3⟩ := (h.own i hi).blk (Nat.lt_of_le_of_lt (Nat.zero_le _) hk)
  exact ⟨b, o, cs, rfl, wrt_own h1, rd_own h1, h2, h3, fun x => h.wr1 i hi h1 h2 h3 hk⟩
theorem LD.cells {c : Option Nat} {H0 H : AH} {L : List It} {v : Value} {l : List Int} (h : LD c H0 H L) (i : Nat) (hi : L[i]? = some (.row v l)) (hk : 0 < l.length) :
    ∃ b o cs, v = .slice (some ⟨b, o, none⟩) l.length 1 ∧ Go.Proofs.Ytockhdhilemfkaa.AM.rd H b = some cs ∧ ∀ (i : Nat) x, l[i]? = some x → cs[o + i]? = some (.int .i64 x) := by
  obtain ⟨b, o, cs, rfl, h1, h2, h3⟩ := (h.own i hi).blk hk
  exact ⟨b, o, cs, rfl, rd_own h1, h3⟩

/-- The bytes of a draw. -/
def BRv (H : AH) (v : Value) : Prop := ∃ a n c, v = .slice a n c ∧ n ≤ 1048576 ∧ BRow H a n c
theorem BRow.mono {H L : AH} {a : Option Addr} {n c : Nat} (h : BRow H a n c) : BRow (H ++ L) a n c := fun hn => by
  obtain ⟨b, o, cs, h1, h2, h3, h4⟩ := h hn
  exact ⟨b, o, cs, h1, h2, gtl h3, h4⟩
theorem BRv.ext {H H' : AH} {v : Value} (h : BRv H v) (he : ∃ K, H' = H ++ K) : BRv H' v := by
  obtain ⟨K, rfl⟩ := he
  obtain ⟨a, n, c, h1, h2, h3⟩ := h
  exact ⟨a, n, c, h1, h2, h3.mono⟩
/-- An array that may be read. -/
structure AR (H : AH) (p q : Value) (sh dt : List Int) : Prop where
  os : IntRow H p sh
  od : IntRow H q dt
  l1 : sh.length ≤ 1048576
  l2 : dt.length ≤ 1048576
theorem AR.ext {H H' : AH} {p q : Value} {sh dt : List Int} (h : AR H p q sh dt) (he : ∃ K, H' = H ++ K) : AR H' p q sh dt := ⟨h.os.ext he, h.od.ext he, h.l1, h.l2⟩
theorem AR.mono {H L : AH} {p q : Value} {sh dt : List Int} (h : AR H p q sh dt) : AR (H ++ L) p q sh dt := h.ext ⟨_, rfl⟩
theorem LD.ar {c : Option Nat} {H0 H : AH} {L : List It} {p q : Value} {sh dt : List Int} (h : LD c H0 H L) (i j : Nat) (hi : L[i]? = some (.row p sh)) (hj : L[j]? = some (.row q dt)) (l1 : sh.length ≤ 1048576) (l2 : dt.length ≤ 1048576) : AR H p q sh dt := ⟨(h.own i hi).int, (h.own j hj).int, l1, l2⟩
theorem LD.of {c : Option Nat} {H0 H : AH} {L L' : List It} (h : LD c H0 H L) (e : L = L') : LD c H0 H L' := by rw [← e]; exact h

theorem big_eq {a : Option Addr} {n c : Nat} {H : AH} {Φ : Value → AH → Prop} : CallsA Try.prog 15 #[.slice a n c] H Φ = Φ (.bool (decide (1048576 < (n : Int)))) H := by
  have : CallsA Try.prog 15 #[.slice a n c] H fun r H' => r = .bool (decide (1048576 < (n : Int))) ∧ H' = H := by
    refine w15 ?_
    unfold k15
    simp -implicitDefEqProofs [kk0, kk1, kk2, kk3, rW_block, ↓two_true, ↓two_false, rW_cond, rO_guard, oS_some, oM_some, mkv, aggAt, Nat.reduceLeDiff, Nat.reduceSub, Nat.reduceMul, cond_true, cond_false, Option.bind_some, List.length_append, List.length_cons, List.length_nil, List.append_assoc, List.cons_append, List.nil_append, List.set_cons_zero, List.set_cons_succ, List.size_toArray, List.all_cons, List.all_nil, List.drop_zero, List.drop_succ_cons, List.take_succ_cons, List.take_zero, List.mem_cons, Prod.mk.injEq, List.not_mem_nil, implies_true, List.getElem?_toArray, List.getElem?_cons_zero, List.getElem?_cons_succ, List.getElem?_nil, Option.getD_some, Option.getD_none, Nat.reduceEqDiff, reduceIte, Nat.reduceAdd, List.map_toArray, List.map_cons, List.map_nil, Bool.false_eq_true, Nat.reduceBEq, Option.map_some, Option.map_none, reduceCtorEq, ln22]
  exact this.eq0

theorem l1New_ok {H : AH} {v : Value} (hv : BRv H v) : CallsA Try.prog 74 #[v] H fun r H' => ∃ cb, r = .pointer (some ⟨cb, 0, none⟩) ∧ Cur H' cb ∧ H.length ≤ cb ∧ ∃ K, H' = H ++ K := by
  obtain ⟨a, n, c, rfl, hn, hr⟩ := hv
  refine w74 ?_
  unfold k74
  simp -implicitDefEqProofs only [kz, kk0, kk1, kk2, kk3, ↓two_true, ↓two_false, oS_some, oM_some, mkv, aggAt, Nat.reduceLeDiff, Nat.reduceSub, Nat.reduceMul, implies_true, Nat.reduceEqDiff, reduceIte, Nat.reduceAdd, Nat.reduceBEq, reduceCtorEq, bd142, cv5_3, ix22, ld5, ln22]
  refine rW_loop (σ := Nat) (fun i tm H' => tm 0 = .slice a n c ∧ (∃ h : Int, tm 3 = .int .i64 h) ∧ tm 4 = .int .i64 i ∧ H' = H ∧ i ≤ n) (fun i => n - i) 0 ?_ ?_
  · exact ⟨rfl, ⟨_, rfl⟩, rfl, rfl, Nat.zero_le _⟩
  · rintro i tm H' ⟨h0, ⟨h, h3⟩, h4, rfl, hi⟩
    simp -implicitDefEqProofs only [kz, kk0, kk1, kk2, kk3, ↓two_true, ↓two_false, oS_some, oM_some, mkv, aggAt, Nat.reduceLeDiff, Nat.reduceSub, Nat.reduceMul, implies_true, Nat.reduceEqDiff, reduceIte, Nat.reduceAdd, Nat.reduceBEq, reduceCtorEq, bd142, cv5_3, ix22, ld5, ln22, h0, h3, h4]
    have fin : ∃ cb, Value.pointer (some ⟨H'.length, 0, none⟩) = Value.pointer (some ⟨cb, 0, none⟩) ∧ Cur (H' ++ [⟨[.slice a n c, .int .i64 0, .int .i64 h], .own⟩]) cb ∧ H'.length ≤ cb ∧ ∃ K, H' ++ [⟨[.slice a n c, .int .i64 0, .int .i64 h], .own⟩] = H' ++ K :=
      ⟨_, rfl, ⟨a, n, c, 0, h, by rw [gt0]; rfl, Nat.zero_le _, hn, hr.mono⟩, Nat.le_refl _, _, rfl⟩
    refine two_intro (fun hc => two_intro (fun hc2 => ?_) (fun hc2 => fin)) (fun hc => fin)
    have hc' : i < n := by simpa using hc
    obtain ⟨b, o, cs, rfl, rfl, hb, hcell⟩ := hr (by omega)
    obtain ⟨v, hv, v0, v1⟩ := hcell i hc'
    have hrb : rd H' b = some cs := by unfold rd; rw [hb]; rfl
    simp -implicitDefEqProofs only [kz, kk0, kk1, kk2, kk3, ↓two_true, ↓two_false, oS_some, oM_some, mkv, aggAt, Nat.reduceLeDiff, Nat.reduceSub, Nat.reduceMul, implies_true, Nat.reduceEqDiff, reduceIte, Nat.reduceAdd, Nat.reduceBEq, reduceCtorEq, bd142, cv5_3, ix22, ld5, ln22, h0, h3, h4, Int.toNat_natCast, Nat.mul_one, hrb, hv, IntWalk.i64_in (↑i + 1) (by omega)]
    exact ⟨⟨by omega, by omega⟩, i + 1, by omega, ⟨_, rfl⟩, by simp, hc'⟩
def Ans1 (H H' : AH) (r : Value) (R : (List Int × List Int) × Int) : Prop := ∃ p q, r = .tuple #[.agg #[p, q], .int .i64 R.2] ∧ LD none H H' [.row p R.1.1, .row q R.1.2]
/-- A value that is an array, without a code. -/
def AnsA (H H' : AH) (r : Value) (R : List Int × List Int) : Prop := ∃ p q, r = .agg #[p, q] ∧ LD none H H' [.row p R.1, .row q R.2]
theorem LD.ans {H H' : AH} {L : List It} {p q : Value} {c : Int} {sh dt : List Int} (h : LD none H H' L) (i j : Nat) (hij : i ≠ j) (hi : L[i]? = some (.row p sh)) (hj : L[j]? = some (.row q dt)) : Ans1 H H' (.tuple #[.agg #[p, q], .int .i64 c]) ((sh, dt), c) := by
  have := h.pick [i, j] (by simp [hij])
  simp only [pickL, List.map_cons, List.map_nil, hi, hj, Option.getD_some] at this
  exact ⟨_, _, rfl, this⟩
theorem AR.o1 {H : AH} {p q : Value} {sh dt : List Int} (h : AR H p q sh dt) : ∃ a c b d, p = .slice a sh.length c ∧ q = .slice b dt.length d := by
  obtain ⟨a, c, e, _⟩ := h.os.op
  obtain ⟨b, d, e', _⟩ := h.od.op
  exact ⟨a, c, b, d, e, e'⟩
/-- The cells of a row that may be read. -/
theorem IntRow.cells {H : AH} {a : Option Addr} {n c : Nat} {l : List Int} (h : IntRow H (.slice a n c) l) {i : Nat} (hi : i < l.length) : n = l.length ∧ ∃ b o cs, a = some ⟨b, o, none⟩ ∧ c = 1 ∧ rd H b = some cs ∧ cs[o + i]? = some (.int .i64 l[i]) := by
  obtain ⟨a', c', e, g⟩ := h.op
  injection e with e1 e2 e3
  subst e1; subst e2; subst e3
  obtain ⟨b, o, cs, g1, g2, g3, g4, g5⟩ := g (by omega)
  exact ⟨rfl, b, o, cs, g1, g2, g3, g5 i hi⟩
theorem AR.lim {H : AH} {p q : Value} {sh dt : List Int} (h : AR H p q sh dt) : sh.length < 4611686018427387904 ∧ dt.length < 4611686018427387904 := by
  have := h.l1; have := h.l2; omega
theorem implOk_ar {H : AH} {p q : Value} {sh dt : List Int} (h : AR H p q sh dt) : CallsA Try.prog 56 #[.agg #[p, q]] H fun r H' => r = .bool (arrOk sh dt) ∧ ∃ K, H' = H ++ K := implArrayOk_ok h.os h.od h.lim.1 h.lim.2

theorem copyA_ok {H : AH} {p q : Value} {sh dt : List Int} (h : AR H p q sh dt) : CallsA Try.prog 78 #[.agg #[p, q]] H fun r H' => AnsA H H' r (sh, dt) := by
  refine (copyArray_ok h.os h.od (by have := h.l1; omega) (by have := h.l2; omega)).mono ?_
  rintro r H' ⟨⟨p', q', ao⟩, he⟩
  exact ⟨p', q', ao.eq, LD.nil.aown ao he⟩

/-- A table whose cells lie in what is never turned; its own block is the function's. -/
structure TabOk (B : Nat → Prop) (H : AH) (v : Value) (ks : List CK) (n : Nat) (xs : List Value) : Prop where
  len : xs.length = n * ks.length
  row : (v = .slice none 0 0 ∧ n = 0) ∨ ∃ b o cs, v = .slice (some ⟨b, o, none⟩) n ks.length ∧ H[b]? = some ⟨cs, .own⟩ ∧ o + n * ks.length ≤ cs.length ∧ ∀ (j : Nat) y, xs[j]? = some y → cs[o + j]? = some y
  cell : ∀ (i c : Nat) k y, i < n → ks[c]? = some k → xs[i * ks.length + c]? = some y → KOk H k y
  base : ∀ y ∈ xs, ∀ b, blkOf y = some b → B b
theorem TabOk.frow {B : Nat → Prop} {H : AH} {v : Value} {ks : List CK} {n : Nat} {xs : List Value} (h : TabOk B H v ks n xs) : FRow H v ks n xs := by
  refine ⟨h.len, ?_, h.cell⟩
  rcases h.row with h1 | ⟨b, o, cs, h1, h2, h3⟩
  · exact .inl h1
  · exact .inr ⟨b, o, cs, h1, rd_own h2, h3⟩
theorem TabOk.same {B B' : Nat → Prop} {H H' : AH} {v : Value} {ks : List CK} {n : Nat} {xs : List Value} (h : TabOk B H v ks n xs) (hv : ∀ b, blkOf v = some b → H'[b]? = H[b]?) (hB : ∀ b, B b → H'[b]? = H[b]?) (hBB : ∀ b, B b → B' b) : TabOk B' H' v ks n xs := by
  refine ⟨h.len, ?_, fun i c k y hi hk hy => (h.cell i c k y hi hk hy).same fun b hb => get_rd (hB b (h.base y (List.mem_of_getElem? hy) b hb)), fun y hy b hb => hBB b (h.base y hy b hb)⟩
  rcases h.row with h1 | ⟨b, o, cs, h1, h2, h3⟩
  · exact .inl h1
  · exact .inr ⟨b, o, cs, h1, by rw [hv b (by rw [h1]; rfl)]; exact h2, h3⟩
theorem TabOk.vals {B : Nat → Prop} {H H' : AH} {v : Value} {ks : List CK} {n : Nat} {xs : List Value} (h : TabOk B H v ks n xs) (hB : ∀ b, B b → H'[b]? = H[b]?) : cvs H' xs = cvs H xs :=
  FRow.cvs_same fun b ⟨y, hy, hb⟩ => get_rd (hB b (h.base y hy b hb))
/-- A table that is only read. -/
structure FTab (B : Nat → Prop) (H : AH) (v : Value) (ks : List CK) (n : Nat) (xs : List Value) : Prop where
  fr : FRow H v ks n xs
  base : ∀ b, (blkOf v = some b ∨ ∃ y ∈ xs, blkOf y = some b) → B b
inductive Ix where
  | own (x : It)
  | tab (v : Value) (ks : List CK) (n : Nat) (xs : List Value) (V : List CV)
  | fro (v : Value) (l : List Int)
  | ftab (v : Value) (ks : List CK) (n : Nat) (xs : List Value) (V : List CV)
def Ix.ok (B : Nat → Prop) (H : AH) : Ix → Prop
  | .own x => x.ok H
  | .tab v ks n xs V => TabOk B H v ks n xs ∧ cvs H xs = V
  | .fro v l => IntRow H v l ∧ ∀ b, blkOf v = some b → B b
  | .ftab v ks n xs V => FTab B H v ks n xs ∧ cvs H xs = V
def Ix.bs : Ix → Nat → Prop
  | .own x, b => x.bs b
  | .tab v _ _ _ _, b => blkOf v = some b
  | .fro _ _, _ => False
  | .ftab _ _ _ _ _, _ => False
theorem Ix.ok.same {B B' : Nat → Prop} {H H' : AH} {x : Ix} (h : x.ok B H) (hs : ∀ b, x.bs b → H'[b]? = H[b]?) (hB : ∀ b, B b → H'[b]? = H[b]?) (hBB : ∀ b, B b → B' b) : x.ok B' H' := by
  cases x with
  | own x => exact It.ok.same h hs
  | tab v ks n xs V => exact ⟨h.1.same hs hB hBB, (h.1.vals hB).trans h.2⟩
  | fro v l => exact ⟨h.1.same fun b o n c e => get_rd (hB b (h.2 b (by rw [e]; rfl))), fun b hb => hBB b (h.2 b hb)⟩
  | ftab v ks n xs V => exact ⟨⟨h.1.fr.same fun b hb => get_rd (hB b (h.1.base b hb)), fun b hb => hBB b (h.1.base b hb)⟩, (FRow.cvs_same fun b hb => get_rd (hB b (h.1.base b (.inr hb)))).trans h.2⟩
theorem Ix.ok.ownb {B : Nat → Prop} {H : AH} {x : Ix} (h : x.ok B H) : ∀ b, x.bs b → ∃ cs, H[b]? = some (⟨cs, .own⟩ : Blk) := by
  intro b hb
  cases x with
  | own x => exact It.ok.ownb h b hb
  | tab v ks n xs V =>
    rcases h.1.row with ⟨e, _⟩ | ⟨b', o, cs, e, h2, _⟩
    · rw [e] at hb; simp [Ix.bs, blkOf] at hb
    · rw [e] at hb; simp [Ix.bs, blkOf] at hb; subst hb; exact ⟨cs, h2⟩
  | fro v l => exact hb.elim
  | ftab v ks n xs V => exact hb.elim
theorem Ix.ok.lt {B : Nat → Prop} {H : AH} {x : Ix} (h : x.ok B H) : ∀ b, x.bs b → b < H.length := fun b hb => by
  obtain ⟨cs, h⟩ := h.ownb b hb
  exact (List.getElem?_eq_some_iff.1 h).1
structure LB (B : Nat → Prop) (c : Option Nat) (H0 H : AH) (L : List Ix) : Prop where
  ok : ∀ (i : Nat) x, L[i]? = some x → x.ok B H
  fr : ∀ (i : Nat) x, L[i]? = some x → ∀ b, x.bs b → ¬ B b ∧ H0.length ≤ b
  dj : ∀ (i j : Nat) x y, i ≠ j → L[i]? = some x → L[j]? = some y → ∀ b, x.bs b → ¬ y.bs b
  len : H0.length ≤ H.length
  keep : ∀ b, b < H0.length → c ≠ some b → H[b]? = H0[b]?
  b0 : ∀ b, b < H0.length → c ≠ some b → B b
  bl : ∀ b, B b → b < H.length ∧ c ≠ some b
  cur : ∀ cb, c = some cb → Cur H cb
  nc : ∀ cb, c = some cb → ∀ (i : Nat) x, L[i]? = some x → ¬ x.bs cb
/-- What a function holds: each by itself, none older than the call; and what it only reads. -/
def LX (c : Option Nat) (H0 H : AH) (L : List Ix) : Prop := ∃ B, LB B c H0 H L
theorem LX.ext {H0 H : AH} {L : List Ix} (h : LX none H0 H L) : ∃ K, H = H0 ++ K := by
  obtain ⟨B, h⟩ := h
  exact ext_of h.len fun b hb => h.keep b hb (by simp)
theorem LX.frm {cb : Nat} {H0 H : AH} {L : List Ix} (h : LX (some cb) H0 H L) : Frm cb H0 H := by
  obtain ⟨B, h⟩ := h
  exact ⟨h.len, fun b hb hn => h.keep b hb (by simpa using Ne.symm hn), h.cur cb rfl⟩
theorem LX.len {c : Option Nat} {H0 H : AH} {L : List Ix} (h : LX c H0 H L) : H0.length ≤ H.length := by
  obtain ⟨B, h⟩ := h; exact h.len
theorem LX.nil {H : AH} : LX none H H [] :=
  ⟨fun b => b < H.length, fun i x h => by simp at h, fun i x h => by simp at h, fun i j x y _ h => by simp at h, Nat.le_refl _, fun _ _ _ => rfl, fun b hb _ => hb, fun b hb => ⟨hb, by simp⟩, fun _ h => by simp at h, fun _ h => by simp at h⟩
theorem LX.nilc {H : AH} {cb : Nat} (h : Cur H cb) : LX (some cb) H H [] :=
  ⟨fun b => b < H.length ∧ b ≠ cb, fun i x h => by simp at h, fun i x h => by simp at h, fun i j x y _ h => by simp at h, Nat.le_refl _, fun _ _ _ => rfl, fun b hb h => ⟨hb, fun e => h (by rw [e])⟩, fun b hb => ⟨hb.1, by simpa using Ne.symm hb.2⟩, fun b hb => by cases hb; exact h, fun _ _ i x h => by simp at h⟩
/-- The heap turns, but for what is held or only read. -/
theorem LB.add {B : Nat → Prop} {c : Option Nat} {H0 H H' : AH} {L : List Ix} {x : Ix} (h : LB B c H0 H L) (hl : H.length ≤ H'.length) (hk : ∀ b, b < H.length → c ≠ some b → H'[b]? = H[b]?) (hc : ∀ cb, c = some cb → Cur H' cb) (hx : x.ok B H') (hb : ∀ b, x.bs b → H.length ≤ b) : LB B c H0 H' (x :: L) := by
  have same : ∀ (i : Nat) y, L[i]? = some y → y.ok B H' := fun i y hy => (h.ok i y hy).same (fun b hb => hk b ((h.ok i y hy).lt b hb) fun e => h.nc b e i y hy hb) (fun b hb => hk b (h.bl b hb).1 (h.bl b hb).2) fun b hb => hb
  refine ⟨?_, ?_, ?_, Nat.le_trans h.len hl, fun b hb hn => ?_, h.b0, fun b hb => ⟨Nat.lt_of_lt_of_le (h.bl b hb).1 hl, (h.bl b hb).2⟩, hc, fun cb e => ?_⟩
  · rintro (_ | i) y hy
    · cases hy; exact hx
    · exact same i y hy
  · rintro (_ | i) y hy b hb2
    · cases hy
      exact ⟨fun hB => by have := (h.bl b hB).1; have := hb b hb2; omega, Nat.le_trans h.len (hb b hb2)⟩
    · exact h.fr i y hy b hb2
  · rintro (_ | i) (_ | j) y z hne hy hz b h1 h2
    · exact hne rfl
    · cases hy; have := hb b h1; have := (h.ok j z hz).lt b h2; omega
    · cases hz; have := hb b h2; have := (h.ok i y hy).lt b h1; omega
    · exact h.dj i j y z (by omega) hy hz b h1 h2
  · rw [hk b (Nat.lt_of_lt_of_le hb h.len) hn, h.keep b hb hn]
  · rintro (_ | i) y hy h2
    · cases hy; have := hb cb h2; have := (h.cur cb e).lt; omega
    · exact h.nc cb e i y hy h2
theorem LB.tail {B : Nat → Prop} {c : Option Nat} {H0 H : AH} {L : List Ix} {x : Ix} (h : LB B c H0 H (x :: L)) : LB B c H0 H L :=
  ⟨fun i y hy => h.ok (i + 1) y hy, fun i y hy => h.fr (i + 1) y hy, fun i j y z hne hy hz => h.dj (i + 1) (j + 1) y z (by omega) hy hz, h.len, h.keep, h.b0, h.bl, h.cur, fun cb e i y hy => h.nc cb e (i + 1) y hy⟩
theorem LX.tail {c : Option Nat} {H0 H : AH} {L : List Ix} {x : Ix} (h : LX c H0 H (x :: L)) : LX c H0 H L := by
  obtain ⟨B, h⟩ := h; exact ⟨B, h.tail⟩
theorem LB.grow {B : Nat → Prop} {c : Option Nat} {H0 H H' : AH} {L : List Ix} (h : LB B c H0 H L) (hl : H.length ≤ H'.length) (hk : ∀ b, b < H.length → c ≠ some b → H'[b]? = H[b]?) (hc : ∀ cb, c = some cb → Cur H' cb) : LB B c H0 H' L :=
  (h.add (x := .own (.row (.slice none 0 0) [])) hl hk hc OwnRow.nil fun b hb => by simp [Ix.bs, It.bs, blkOf] at hb).tail
theorem LX.call {cb : Nat} {H0 H H' : AH} {L : List Ix} (h : LX (some cb) H0 H L) (hf : Frm cb H H') : LX (some cb) H0 H' L := by
  obtain ⟨B, h⟩ := h
  exact ⟨B, h.grow hf.len (fun b hb hn => hf.keep b hb (by simpa using Ne.symm hn)) (fun g e => by cases e; exact hf.cur)⟩
theorem LX.extd {c : Option Nat} {H0 H H' : AH} {L : List Ix} (h : LX c H0 H L) (hf : ∃ K, H' = H ++ K) : LX c H0 H' L := by
  obtain ⟨B, h⟩ := h
  obtain ⟨K, rfl⟩ := hf
  exact ⟨B, h.grow (by simp) (fun b hb _ => List.getElem?_append_left hb) (fun g e => (h.cur g e).mono)⟩
/-- One thing is turned. -/
theorem LB.upd {B : Nat → Prop} {c : Option Nat} {H0 H H' : AH} {L : List Ix} {x x' : Ix} (h : LB B c H0 H L) (i : Nat) (hi : L[i]? = some x) (hl : H.length ≤ H'.length) (hk : ∀ b, b < H.length → ¬ x.bs b → H'[b]? = H[b]?) (hx : x'.ok B H') (hb : ∀ b, x'.bs b → x.bs b ∨ H.length ≤ b) : LB B c H0 H' (L.set i x') := by
  have hil := (List.getElem?_eq_some_iff.1 hi).1
  have get : ∀ (j : Nat) y, (L.set i x')[j]? = some y → (j = i ∧ y = x') ∨ (j ≠ i ∧ L[j]? = some y) := fun j y hy => by
    rcases Nat.decEq i j with e | e
    · rw [List.getElem?_set_ne e] at hy; exact .inr ⟨Ne.symm e, hy⟩
    · subst e; rw [List.getElem?_set_self hil] at hy; cases hy; exact .inl ⟨rfl, rfl⟩
  have hB : ∀ b, B b → H'[b]? = H[b]? := fun b hb => hk b (h.bl b hb).1 fun e => (h.fr i x hi b e).1 hb
  refine ⟨fun j y hy => ?_, fun j y hy b hb2 => ?_, fun j k y z hne hy hz b e1 e2 => ?_, Nat.le_trans h.len hl, fun b hb2 hn => ?_, h.b0, fun b hb => ⟨Nat.lt_of_lt_of_le (h.bl b hb).1 hl, (h.bl b hb).2⟩, fun cb e => ?_, fun cb e j y hy h2 => ?_⟩
  · rcases get j y hy with ⟨rfl, rfl⟩ | ⟨hne, hy⟩
    · exact hx
    · exact (h.ok j y hy).same (fun b hb2 => hk b ((h.ok j y hy).lt b hb2) (h.dj j i y x hne hy hi b hb2)) hB fun b hb => hb
  · rcases get j y hy with ⟨rfl, rfl⟩ | ⟨hne, hy⟩
    · exact (hb b hb2).elim (h.fr j x hi b) fun h2 => ⟨fun hB2 => by have := (h.bl b hB2).1; omega, Nat.le_trans h.len h2⟩
    · exact h.fr j y hy b hb2
  · rcases get j y hy with ⟨rfl, rfl⟩ | ⟨hne1, hy'⟩
    · rcases get k z hz with ⟨rfl, rfl⟩ | ⟨hne2, hz⟩
      · exact hne rfl
      · exact (hb b e1).elim (fun e1 => h.dj j k x z hne hi hz b e1 e2) fun e1 => by have := (h.ok k z hz).lt b e2; omega
    · rcases get k z hz with ⟨rfl, rfl⟩ | ⟨hne2, hz⟩
      · exact (hb b e2).elim (fun e2 => h.dj j k y x hne hy' hi b e1 e2) fun e2 => by have := (h.ok j y hy').lt b e1; omega
      · exact h.dj j k y z hne hy' hz b e1 e2
  · rw [hk b (Nat.lt_of_lt_of_le hb2 h.len) fun e => by have := (h.fr i x hi b e).2; omega, h.keep b hb2 hn]
  · have h2 := h.cur cb e
    refine h2.same (hk cb h2.lt (h.nc cb e i x hi)) fun b cs hb2 => ?_
    rw [hk b (List.getElem?_eq_some_iff.1 hb2).1 fun e => ?_]
    · exact hb2
    · obtain ⟨cs', h3⟩ := (h.ok i x hi).ownb b e
      rw [hb2] at h3; cases h3
  · rcases get j y hy with ⟨rfl, rfl⟩ | ⟨hne1, hy'⟩
    · exact (hb cb h2).elim (h.nc cb e j x hi) fun h3 => by have := (h.cur cb e).lt; omega
    · exact h.nc cb e j y hy' h2
theorem LX.rd {c : Option Nat} {H0 H : AH} {L : List Ix} {o : Nat} {cs : List Value} (h : LX c H0 H L) (i : Nat) (hi : L[i]? = some (.own (.box o cs))) : rd H o = some cs ∧ wrt H o = some cs := by
  obtain ⟨B, h⟩ := h
  exact ⟨rd_own (h.ok i _ hi), wrt_own (h.ok i _ hi)⟩
theorem LX.own {c : Option Nat} {H0 H : AH} {L : List Ix} {v : Value} {l : List Int} (h : LX c H0 H L) (i : Nat) (hi : L[i]? = some (.own (.row v l))) : OwnRow H v l := by
  obtain ⟨B, h⟩ := h; exact h.ok i _ hi
theorem LX.int {c : Option Nat} {H0 H : AH} {L : List Ix} {v : Value} {l : List Int} (h : LX c H0 H L) (i : Nat) (hi : L[i]? = some (.own (.row v l))) : IntRow H v l := (h.own i hi).int
theorem LX.ri {c : Option Nat} {H0 H : AH} {L : List Ix} {v : Value} {l : List Int} (h : LX c H0 H L) (i : Nat) (hi : L[i]? = some (.fro v l)) : IntRow H v l := by
  obtain ⟨B, h⟩ := h; exact (h.ok i _ hi).1
theorem LX.cur {H0 H : AH} {L : List Ix} {cb : Nat} (h : LX (some cb) H0 H L) : Cur H cb := by
  obtain ⟨B, h⟩ := h; exact h.cur cb rfl
theorem LX.nc {H0 H : AH} {L : List Ix} {cb : Nat} {v : Value} {l : List Int} (h : LX (some cb) H0 H L) (i : Nat) (hi : L[i]? = some (.own (.row v l))) : blkOf v ≠ some cb := by
  obtain ⟨B, h⟩ := h
  exact h.nc cb rfl i _ hi
theorem LX.box {c : Option Nat} {H0 H : AH} {L : List Ix} (h : LX c H0 H L) (cs : List Value) : LX c H0 (H ++ [⟨cs, .own⟩]) (.own (.box H.length cs) :: L) := by
  obtain ⟨B, h⟩ := h
  exact ⟨B, h.add (by simp) (fun b hb _ => List.getElem?_append_left hb) (fun g e => (h.cur g e).mono) (by show (H ++ [⟨cs, .own⟩])[H.length]? = _; rw [gt0]; rfl) fun b hb => by cases hb; exact Nat.le_refl _⟩
theorem LX.nrow {c : Option Nat} {H0 H H' : AH} {L : List Ix} {v : Value} {l : List Int} (h : LX c H0 H L) (hv : DR H H' v l) (hf : ∃ K, H' = H ++ K) : LX c H0 H' (.own (.row v l) :: L) := by
  obtain ⟨B, h⟩ := h
  obtain ⟨K, rfl⟩ := hf
  exact ⟨B, h.add (by simp) (fun b hb _ => List.getElem?_append_left hb) (fun g e => (h.cur g e).mono) hv.own hv.fr⟩
theorem LX.set {c : Option Nat} {H0 H : AH} {L : List Ix} {o : Nat} {cs : List Value} (h : LX c H0 H L) (i : Nat) (hi : L[i]? = some (.own (.box o cs))) (cs' : List Value) : LX c H0 (H.set o ⟨cs', .own⟩) (L.set i (.own (.box o cs'))) := by
  obtain ⟨B, h⟩ := h
  exact ⟨B, h.upd i hi (by simp) (fun b hb hn => List.getElem?_set_ne (fun e => hn e.symm)) (set_at (h.ok i _ hi)) fun b hb => .inl hb⟩
theorem LX.push {c : Option Nat} {H0 H H' : AH} {L : List Ix} {v v' : Value} {l m : List Int} (h : LX c H0 H L) (i : Nat) (hi : L[i]? = some (.own (.row v l))) (ho : OwnRow H' v' m) (ha : App H v H' v') : LX c H0 H' (L.set i (.own (.row v' m))) := by
  obtain ⟨B, h⟩ := h
  exact ⟨B, h.upd i hi ha.len ha.keep ho ha.new⟩
theorem LX.wr {c : Option Nat} {H0 H : AH} {L : List Ix} {v : Value} {l : List Int} {k : Nat} (h : LX c H0 H L) (i : Nat) (hi : L[i]? = some (.own (.row v l))) (hk : k < l.length) :
    ∃ b o cs, v = .slice (some ⟨b, o, none⟩) l.length 1 ∧ wrt H b = some cs ∧ Go.Proofs.Ytockhdhilemfkaa.AM.rd H b = some cs ∧ o + l.length ≤ cs.length ∧ (∀ (i : Nat) x, l[i]? = some x → cs[o + i]? = some (.int .i64 x)) ∧ ∀ x, LX c H0 (H.set b ⟨cs.set (o + k) (.int .i64 x), .own⟩) (L.set i (.own (.row v (l.set k x)))) := by
  obtain ⟨b, o, cs, rfl, h1, h2, h3⟩ := (h.own i hi).blk (Nat.lt_of_le_of_lt (Nat.zero_le _) hk)
  obtain ⟨B, h⟩ := h
  exact ⟨b, o, cs, rfl, wrt_own h1, rd_own h1, h2, h3, fun x => ⟨B, h.upd i hi (by simp) (fun g hg hn => List.getElem?_set_ne (fun e => hn (by rw [← e]; rfl))) (OwnRow.wr1 h1 h2 h3 hk) fun g hg => .inl hg⟩⟩
/-- What a callee leaves is held from here on. -/
theorem LX.join {c : Option Nat} {H0 H H' : AH} {L : List Ix} {L' : List It} (h : LX c H0 H L) (g : LD none H H' L') : LX c H0 H' (L'.map .own ++ L) := by
  obtain ⟨B, h⟩ := h
  obtain ⟨K, hK⟩ := g.ext
  have h1 : LB B c H0 H' L := h.grow g.len (fun b hb _ => g.keep b hb (by simp)) fun cb e => by rw [hK]; exact (h.cur cb e).mono
  have get : ∀ (i : Nat) x, (L'.map Ix.own ++ L)[i]? = some x → (∃ y, x = .own y ∧ L'[i]? = some y) ∨ (L'.length ≤ i ∧ L[i - L'.length]? = some x) := fun i x hx => by
    rcases Nat.lt_or_ge i L'.length with e | e
    · rw [List.getElem?_append_left (by simpa using e), List.getElem?_map, Option.map_eq_some_iff] at hx
      obtain ⟨y, hy, rfl⟩ := hx
      exact .inl ⟨y, rfl, hy⟩
    · rw [List.getElem?_append_right (by simpa using e), List.length_map] at hx; exact .inr ⟨e, hx⟩
  refine ⟨B, fun i x hx => ?_, fun i x hx b hb => ?_, fun i j x y hne hx hy b e1 e2 => ?_, h1.len, h1.keep, h1.b0, h1.bl, h1.cur, fun cb e i x hx hb => ?_⟩
  · rcases get i x hx with ⟨y, rfl, gx⟩ | ⟨_, hx⟩
    · exact g.ok _ y gx
    · exact h1.ok _ x hx
  · rcases get i x hx with ⟨y, rfl, gx⟩ | ⟨_, hx⟩
    · have := g.fr _ y gx b hb
      exact ⟨fun e => by have := (h.bl b e).1; omega, Nat.le_trans h.len this⟩
    · exact h1.fr _ x hx b hb
  · rcases get i x hx with ⟨x', rfl, gx⟩ | ⟨a1, hx⟩ <;> rcases get j y hy with ⟨y', rfl, gy⟩ | ⟨a2, hy⟩
    · exact g.dj i j x' y' hne gx gy b e1 e2
    · have := g.fr _ x' gx b e1; have := (h.ok _ y hy).lt b e2; omega
    · have := g.fr _ y' gy b e2; have := (h.ok _ x hx).lt b e1; omega
    · exact h1.dj _ _ x y (by omega) hx hy b e1 e2
  · rcases get i x hx with ⟨y, rfl, gx⟩ | ⟨_, hx⟩
    · have := g.fr _ y gx cb hb; have := (h.cur cb e).lt; omega
    · exact h1.nc cb e _ x hx hb
/-- What is handed back. -/
theorem LX.give {c : Option Nat} {H0 H : AH} {L : List Ix} (h : LX c H0 H L) (is : List Nat) (hn : is.Nodup) (L' : List It) (hL : is.map (fun i => L[i]?) = L'.map (fun x => some (.own x))) : LD c H0 H L' := by
  obtain ⟨B, h⟩ := h
  have get : ∀ (j : Nat) x, L'[j]? = some x → ∃ i, is[j]? = some i ∧ L[i]? = some (.own x) := fun j x hx => by
    have := congrArg (fun l => l[j]?) hL
    simp only [List.getElem?_map, hx, Option.map_some, Option.map_eq_some_iff] at this
    exact this
  refine ⟨fun j x hx => ?_, fun j x hx b hb => ?_, fun j k x y hne hx hy b e1 e2 => ?_, h.len, h.keep, h.cur, fun cb e j x hx hb => ?_⟩
  · obtain ⟨i, _, h1⟩ := get j x hx
    exact h.ok i _ h1
  · obtain ⟨i, _, h1⟩ := get j x hx
    exact (h.fr i _ h1 b hb).2
  · obtain ⟨i, hi, h1⟩ := get j x hx
    obtain ⟨i', hi', h1'⟩ := get k y hy
    refine h.dj i i' _ _ ?_ h1 h1' b e1 e2
    rintro rfl
    obtain ⟨l1, l2⟩ := List.getElem?_eq_some_iff.1 hi
    obtain ⟨l3, l4⟩ := List.getElem?_eq_some_iff.1 hi'
    have hp := List.pairwise_iff_getElem.1 hn
    rcases Nat.lt_or_gt_of_ne hne with e | e
    · exact hp _ _ l1 l3 e (l2.trans l4.symm)
    · exact hp _ _ l3 l1 e (l4.trans l2.symm)
  · obtain ⟨i, _, h1⟩ := get j x hx
    exact h.nc cb e i _ h1 hb
theorem LX.pick {c : Option Nat} {H0 H : AH} {L : List Ix} (h : LX c H0 H L) (is : List Nat) (L' : List Ix) (hL : is.map (fun i => L[i]?) = L'.map some) (hn : is.Nodup) : LX c H0 H L' := by
  obtain ⟨B, h⟩ := h
  have get : ∀ (j : Nat) x, L'[j]? = some x → ∃ i, is[j]? = some i ∧ L[i]? = some x := fun j x hx => by
    have := congrArg (fun l => l[j]?) hL
    simp only [List.getElem?_map, hx, Option.map_some, Option.map_eq_some_iff] at this
    exact this
  refine ⟨B, fun j x hx => ?_, fun j x hx b hb => ?_, fun j k x y hne hx hy b e1 e2 => ?_, h.len, h.keep, h.b0, h.bl, h.cur, fun cb e j x hx hb => ?_⟩
  · obtain ⟨i, _, h1⟩ := get j x hx
    exact h.ok i _ h1
  · obtain ⟨i, _, h1⟩ := get j x hx
    exact h.fr i _ h1 b hb
  · obtain ⟨i, hi, h1⟩ := get j x hx
    obtain ⟨i', hi', h1'⟩ := get k y hy
    refine h.dj i i' _ _ ?_ h1 h1' b e1 e2
    rintro rfl
    obtain ⟨l1, l2⟩ := List.getElem?_eq_some_iff.1 hi
    obtain ⟨l3, l4⟩ := List.getElem?_eq_some_iff.1 hi'
    have hp := List.pairwise_iff_getElem.1 hn
    rcases Nat.lt_or_gt_of_ne hne with e | e
    · exact hp _ _ l1 l3 e (l2.trans l4.symm)
    · exact hp _ _ l3 l1 e (l4.trans l2.symm)
  · obtain ⟨i, _, h1⟩ := get j x hx
    exact h.nc cb e i _ h1 hb
theorem LX.out {H0 H : AH} {L : List Ix} {cb : Nat} (h : LX (some cb) H0 H L) (hb : H0.length ≤ cb) : LX none H0 H L := by
  obtain ⟨B, h⟩ := h
  exact ⟨B, h.ok, h.fr, h.dj, h.len, fun b hb2 _ => h.keep b hb2 (by simp; omega), fun b hb2 _ => h.b0 b hb2 (by simp; omega), fun b hb => ⟨(h.bl b hb).1, by simp⟩, fun _ e => by simp at e, fun _ e => by simp at e⟩
theorem LX.cursor {H0 H H' : AH} {L : List Ix} {cb : Nat} (h : LX none H0 H L) (hf : ∃ K, H' = H ++ K) (hc : Cur H' cb) (hb : H.length ≤ cb) : LX (some cb) H0 H' L := by
  obtain ⟨B, h1⟩ := h.extd hf
  obtain ⟨B2, h⟩ := h
  have hlen := ext_len hf
  obtain ⟨K, rfl⟩ := hf
  have h3 : LB B2 none H0 (H ++ K) L := h.grow (by simp) (fun b hb _ => List.getElem?_append_left hb) (fun g e => (h.cur g e).mono)
  refine ⟨B2, h3.ok, h3.fr, h3.dj, h3.len, fun b hb _ => h3.keep b hb (by simp), fun b hb _ => h3.b0 b hb (by simp), fun b hb2 => ⟨(h3.bl b hb2).1, fun e => ?_⟩, fun g e => by cases e; exact hc, fun g e i x hx h2 => ?_⟩
  · cases e
    have := (h.bl _ hb2).1; omega
  · cases e
    have := (h.ok i x hx).lt _ h2; omega
theorem LX.da {cb : Nat} {H0 H H' : AH} {L : List Ix} {p q : Value} {sh dt : List Int} (h : LX (some cb) H0 H L) (ha : DA H H' p q sh dt) (hf : Frm cb H H') : LX (some cb) H0 H' (.own (.row p sh) :: .own (.row q dt) :: L) := by
  obtain ⟨B, h⟩ := h
  have h2 : LB B (some cb) H0 H' (.own (.row q dt) :: L) := h.add hf.len (fun b hb hn => hf.keep b hb (by simpa using Ne.symm hn)) (fun g e => by cases e; exact hf.cur) ha.dt.own ha.dt.fr
  have h1 : LB B (some cb) H0 H' (.own (.row p sh) :: L) := h.add hf.len (fun b hb hn => hf.keep b hb (by simpa using Ne.symm hn)) (fun g e => by cases e; exact hf.cur) ha.sh.own ha.sh.fr
  refine ⟨B, ?_, ?_, ?_, h1.len, h1.keep, h1.b0, h1.bl, h1.cur, fun cb e => ?_⟩
  · rintro (_ | i) y hy
    · cases hy; exact ha.sh.own
    · exact h2.ok i y hy
  · rintro (_ | i) y hy b hb
    · cases hy; exact h1.fr 0 _ rfl b hb
    · exact h2.fr i y hy b hb
  · rintro (_ | _ | i) (_ | _ | j) y z hne hy hz b e1 e2
    · exact hne rfl
    · cases hy; cases hz; exact ha.dj b e1 e2
    · exact h1.dj 0 (j + 1) y z (by omega) hy hz b e1 e2
    · cases hy; cases hz; exact ha.dj b e2 e1
    · exact hne rfl
    · exact h2.dj 0 (j + 1) y z (by omega) hy hz b e1 e2
    · exact h1.dj (i + 1) 0 y z (by omega) hy hz b e1 e2
    · exact h2.dj (i + 1) 0 y z (by omega) hy hz b e1 e2
    · exact h1.dj (i + 1) (j + 1) y z (by omega) hy hz b e1 e2
  · rintro (_ | i) y hy
    · cases hy; exact h1.nc cb e 0 _ rfl
    · exact h2.nc cb e i y hy
theorem LX.ar {c : Option Nat} {H0 H : AH} {L : List Ix} {p q : Value} {sh dt : List Int} (h : LX c H0 H L) (i j : Nat) (hi : L[i]? = some (.own (.row p sh))) (hj : L[j]? = some (.own (.row q dt))) (l1 : sh.length ≤ 1048576) (l2 : dt.length ≤ 1048576) : AR H p q sh dt := ⟨h.int i hi, h.int j hj, l1, l2⟩
theorem LX.ans {H H' : AH} {L : List Ix} {p q : Value} {c : Int} {sh dt : List Int} {R : (List Int × List Int) × Int} (h : LX none H H' L) (i j : Nat) (hij : i ≠ j) (hi : L[i]? = some (.own (.row p sh))) (hj : L[j]? = some (.own (.row q dt))) (hR : R = ((sh, dt), c)) : Ans1 H H' (.tuple #[.agg #[p, q], .int .i64 c]) R := by
  subst hR
  exact ⟨_, _, rfl, h.give [i, j] (by simp [hij]) [.row p sh, .row q dt] (by simp [hi, hj])⟩
/-- A row alone. -/
def AnsI (H H' : AH) (r : Value) (l : List Int) : Prop := LD none H H' [.row r l]
theorem LX.ansI {H H' : AH} {L : List Ix} {p : Value} {l m : List Int} (h : LX none H H' L) (i : Nat) (hi : L[i]? = some (.own (.row p l))) (hR : m = l) : AnsI H H' p m := by
  subst hR
  exact h.give [i] (by simp) [.row p m] (by simp [hi])
theorem cast0 : ((0 : Nat) : Int) = 0 := rfl
theorem st_box {c : Option Nat} {H0 H : AH} {L : List Ix} {Φ : Value → AH → Prop} {cs : List Value} (q : LX c H0 H L) (k : ∀ H', LX c H0 H' (.own (.box H.length cs) :: L) → Φ (.pointer (some ⟨H.length, 0, none⟩)) H') : oM (some (cs, none)) H Φ := k _ (q.box cs)
theorem st_lit {c : Option Nat} {H0 H : AH} {L : List Ix} {Φ : Value → AH → Prop} {cs : List Value} {n : Nat} (l : List Int) (he : cs = ints l) (hn : n = l.length) (q : LX c H0 H L) (k : ∀ H', LX c H0 H' (.own (.row (.slice (some ⟨H.length, 0, none⟩) n 1) l) :: L) → Φ (.slice (some ⟨H.length, 0, none⟩) n 1) H') : oM (some (cs, some (n, 1))) H Φ :=
  k _ (q.nrow (DR.lit l (Nat.le_refl _) he hn) ⟨_, rfl⟩)
theorem st_set {c : Option Nat} {H0 H : AH} {L : List Ix} {Φ : Value → AH → Prop} {b : Nat} {cs cs' : List Value} (q : LX c H0 H L) (i : Nat) (hi : L[i]? = some (.own (.box b cs))) (k : ∀ H', LX c H0 H' (L.set i (.own (.box b cs'))) → Φ undef H') : oS (some (H.set b ⟨cs', .own⟩)) Φ := k _ (q.set i hi cs')
def Same : List Nat → Tm → Tm → Prop
  | [], _, _ => True
  | k :: ks, a, b => a k = b k ∧ Same ks a b
/-- A loop over a state; what is not turned in it stays. -/
theorem rW_loopQ {P : Program} {cd : KC} {s : List Fr} {Q : Post} {σ : Type} {tm : Tm} {H H0 : AH} {c : Option Nat} {L : List Ix} (q : LX c H0 H L) (live : List Nat) (A : σ → Tm → Prop) (J : σ → List Ix → List Ix) (μ : σ → Nat) (x : σ) (hA : A x tm) (hJ : J x L = L)
    (hs : ∀ x tm' H', Same live tm' tm → A x tm' → LX c H0 H' (J x L) → rW P cd [] (lpK P (fun tm'' H'' => ∃ y, μ y < μ x ∧ Same live tm'' tm' ∧ A y tm'' ∧ LX c H0 H'' (J y L)) s Q) tm' H') : rW P (.loop cd) s Q tm H := by
  have str : ∀ {a b d : Tm}, ∀ ks, Same ks a b → Same ks b d → Same ks a d := by
    intro a b d ks
    induction ks with
    | nil => exact fun _ _ => trivial
    | cons k ks ih => exact fun h1 h2 => ⟨h1.1.trans h2.1, ih h1.2 h2.2⟩
  have sr : ∀ {a : Tm}, ∀ ks, Same ks a a := by
    intro a ks
    induction ks with
    | nil => trivial
    | cons k ks ih => exact ⟨rfl, ih⟩
  refine rW_loop (σ := σ) (fun x tm' H' => Same live tm' tm ∧ A x tm' ∧ LX c H0 H' (J x L)) μ x ⟨sr live, hA, by rw [hJ]; exact q⟩ ?_
  rintro x tm' H' ⟨h1, h2, h3⟩
  refine kW_monoQ (fun ex tm'' H'' hh => ?_) (hs x tm' H' h1 h2 h3)
  cases ex with
  | normal =>
    obtain ⟨y, e1, e2, e3, e4⟩ := hh
    exact ⟨y, e1, str live e2 h1, e3, e4⟩
  | _ => exact hh
theorem st_q {c : Option Nat} {H0 H : AH} {L : List Ix} {Φ : Value → AH → Prop} (q : LX c H0 H L) (k : ∀ H', LX c H0 H' L → Φ undef H') : oS (some H) Φ := k _ q

/-- A number of a row that is held: its place; and the row with another number there. -/
theorem LX.wrI {c0 : Option Nat} {H0 H : AH} {L : List Ix} {a : Option Addr} {n c : Nat} {l : List Int} {k : Nat} (h : LX c0 H0 H L) (i : Nat) (hi : L[i]? = some (.own (.row (.slice a n c) l))) (hk : k < l.length) :
    ∃ b o cs, aIndexAddr Try.prog 24 (.slice a n c) (.int .i64 k) = some (.pointer (some ⟨b, o + k, none⟩)) ∧ wrt H b = some cs ∧ Go.Proofs.Ytockhdhilemfkaa.AM.rd H b = some cs ∧ o + k + 1 ≤ cs.length ∧ cs[o + k]? = some (.int .i64 l[k]) ∧ ∀ x, LX c0 H0 (H.set b ⟨cs.set (o + k) (.int .i64 x), .own⟩) (L.set i (.own (.row (.slice a n c) (l.set k x)))) := by
  obtain ⟨b, o, cs, e, h1, h2, h3, h4, h5⟩ := h.wr i hi hk
  injection e with e1 e2 e3
  subst e1; subst e2; subst e3
  refine ⟨b, o, cs, ?_, h1, h2, by omega, h4 k _ (List.getElem?_eq_getElem hk), h5⟩
  rw [ix24, if_pos (by omega)]
  simp

theorem rpBytes {P : Program} {H : AH} {t e : TypeId} {v : Value} (h : RpV P H t v) (hu : P.underlying t = some (.slice e)) (he : P.underlying e = some (.int .u8)) (hc : P.cellsOf e = 1) : ∃ a n c, v = .slice a n c ∧ BRow H a n c := by
  obtain ⟨k, vs, h, rfl⟩ := h
  rcases h.slice hu with rfl | ⟨b, n, cs, rfl, h2, h3, h4, k, h5⟩
  · exact ⟨none, 0, 0, by simp [mkV, hu], fun h => by omega⟩
  · rw [hc] at h3 h5
    refine ⟨_, n, 1, by simp [mkV, hu, hc], fun _ => ⟨b, 0, cs, rfl, rfl, h2, fun j hj => ?_⟩⟩
    obtain ⟨m, h6, h7⟩ := (h5 j hj).int he
    have h8 : cs[j]? = some (.int .u8 m) := by
      have := congrArg (fun l : List Value => l[0]?) h6
      simp only [List.getElem?_take_of_lt Nat.zero_lt_one, List.getElem?_drop, Nat.mul_one, Nat.add_zero, List.getElem?_cons_zero] at this
      exact this
    refine ⟨m, by rw [Nat.zero_add]; exact h8, ?_⟩
    have := h7
    simp [Lit.wf] at this
    have e1 : IntKind.u8.min = 0 := rfl
    have e2 : IntKind.u8.max = 255 := rfl
    omega
theorem sameInts_ok {H : AH} {v w : Value} {l m : List Int} (hv : IntRow H v l) (hw : IntRow H w m) (hl : l.length < 9223372036854775807) : CallsA Try.prog 21 #[v, w] H fun r H' => r = .bool (l == m) ∧ H' = H := by
  obtain ⟨a, c, rfl, gv⟩ := hv.op
  obtain ⟨a', c', rfl, gw⟩ := hw.op
  refine w21 ?_
  unfold k21
  simp -implicitDefEqProofs only [kz, kk0, kk1, kk2, kk3, ↓two_true, ↓two_false, oS_some, oM_some, mkv, aggAt, Nat.reduceLeDiff, Nat.reduceSub, Nat.reduceMul, implies_true, Nat.reduceEqDiff, reduceIte, Nat.reduceAdd, Nat.reduceBEq, reduceCtorEq, ix24, ld3, ln24]
  refine two_intro (fun h => ?_) (fun h => ?_)
  · have : (l == m) = false := by
      rw [beq_eq_false_iff_ne]
      rintro rfl
      simp at h
    rw [this]
  · have hlen : l.length = m.length := by simp at h; omega
    refine rW_loop (σ := Nat) (fun i tm H' => tm 0 = .slice a l.length c ∧ tm 1 = .slice a' m.length c' ∧ tm 5 = .int .i64 i ∧ H' = H ∧ i ≤ l.length ∧ ∀ j, j < i → l[j]? = m[j]?) (fun i => l.length - i) 0 ?_ ?_
    · simp -implicitDefEqProofs [kk0, kk1, kk2, kk3, rW_block, ↓two_true, ↓two_false, rW_cond, rO_guard, oS_some, oM_some, mkv, aggAt, Nat.reduceLeDiff, Nat.reduceSub, Nat.reduceMul, cond_true, cond_false, Option.bind_some, List.length_append, List.length_cons, List.length_nil, List.append_assoc, List.cons_append, List.nil_append, List.set_cons_zero, List.set_cons_succ, List.size_toArray, List.all_cons, List.all_nil, List.drop_zero, List.drop_succ_cons, List.take_succ_cons, List.take_zero, List.mem_cons, Prod.mk.injEq, List.not_mem_nil, implies_true, List.getElem?_toArray, List.getElem?_cons_zero, List.getElem?_cons_succ, List.getElem?_nil, Option.getD_some, Option.getD_none, Nat.reduceEqDiff, reduceIte, Nat.reduceAdd, List.map_toArray, List.map_cons, List.map_nil, Bool.false_eq_true, Nat.reduceBEq, Option.map_some, Option.map_none, reduceCtorEq, ix24, ld3, ln24]
    · rintro i tm H' ⟨h0, h1, h5, rfl, hi, hn⟩
      simp -implicitDefEqProofs only [kz, kk0, kk1, kk2, kk3, ↓two_true, ↓two_false, oS_some, oM_some, mkv, aggAt, Nat.reduceLeDiff, Nat.reduceSub, Nat.reduceMul, implies_true, Nat.reduceEqDiff, reduceIte, Nat.reduceAdd, Nat.reduceBEq, reduceCtorEq, ix24, ld3, ln24, h0, h1, h5]
      refine two_intro (fun hc => ?_) (fun hc => ?_)
      · have hc' : i < l.length := by simpa using hc
        have hc2 : i < m.length := by omega
        obtain ⟨b, o, cs, rfl, rfl, hrd, _, hcell⟩ := gv (by omega)
        obtain ⟨b', o', cs', rfl, rfl, hrd', _, hcell'⟩ := gw (by omega)
        simp -implicitDefEqProofs only [kz, kk0, kk1, kk2, kk3, ↓two_true, ↓two_false, oS_some, oM_some, mkv, aggAt, Nat.reduceLeDiff, Nat.reduceSub, Nat.reduceMul, implies_true, Nat.reduceEqDiff, reduceIte, Nat.reduceAdd, Nat.reduceBEq, reduceCtorEq, ix24, ld3, ln24, h0, h1, h5, Int.toNat_natCast, Nat.mul_one, hrd, hrd', hcell i hc', hcell' i hc2, IntWalk.i64_in (↑i + 1) (by omega)]
        refine ⟨⟨by omega, by omega⟩, ⟨by omega, by omega⟩, two_intro (fun h => ?_) (fun h => ?_)⟩
        · have : (l == m) = false := by
            rw [beq_eq_false_iff_ne]
            rintro rfl
            simp at h
          rw [this]
        · refine ⟨i + 1, by omega, by simp, hc', fun j hj => ?_⟩
          rcases Nat.lt_or_ge j i with h1 | h1
          · exact hn j h1
          · have : j = i := by omega
            subst this
            simpa [hc', hc2] using h
      · have hc' : ¬ i < l.length := by simpa using hc
        have : (l == m) = true := by
          rw [beq_iff_eq]
          refine List.ext_getElem? fun j => ?_
          rcases Nat.lt_or_ge j i with h1 | h1
          · exact hn j h1
          · rw [List.getElem?_eq_none (by omega), List.getElem?_eq_none (by omega)]
        rw [this]
def rowsV (rs : List (List Int × List Int)) : List CV := rs.flatMap fun r => [.r r.1, .r r.2]
theorem rowsV_len {rs : List (List Int × List Int)} : (rowsV rs).length = rs.length * 2 := by
  induction rs with
  | nil => rfl
  | cons r rs ih => simp only [rowsV, List.flatMap_cons, List.length_append, List.length_cons, List.length_nil] at ih ⊢; omega
theorem rowsV_get : ∀ {rs : List (List Int × List Int)} {i : Nat} (h : i < rs.length), (rowsV rs)[i * 2]? = some (.r rs[i].1) ∧ (rowsV rs)[i * 2 + 1]? = some (.r rs[i].2)
  | r :: rs, 0, _ => by simp [rowsV]
  | r :: rs, i + 1, h => by
    have h' : i < rs.length := by simpa using h
    obtain ⟨h1, h2⟩ := rowsV_get h'
    have e : rowsV (r :: rs) = .r r.1 :: .r r.2 :: rowsV rs := rfl
    refine ⟨?_, ?_⟩
    · rw [e, show (i + 1) * 2 = i * 2 + 1 + 1 by omega, List.getElem?_cons_succ, List.getElem?_cons_succ, h1]; rfl
    · rw [e, show (i + 1) * 2 + 1 = i * 2 + 1 + 1 + 1 by omega, List.getElem?_cons_succ, List.getElem?_cons_succ, h2]; rfl
/-- A row of arrays that may be read. -/
def RowsA (H : AH) (v : Value) (rs : List (List Int × List Int)) : Prop :=
  ∃ a c, v = .slice a rs.length c ∧ (0 < rs.length → ∃ b o cs, a = some ⟨b, o, none⟩ ∧ c = 2 ∧ rd H b = some cs ∧
    ∀ i (hi : i < rs.length), ∃ p q, cs[o + i * 2]? = some p ∧ cs[o + i * 2 + 1]? = some q ∧ IntRow H p rs[i].1 ∧ IntRow H q rs[i].2)
theorem RowsA.ext {H H' : AH} {v : Value} {rs : List (List Int × List Int)} (h : RowsA H v rs) (he : ∃ K, H' = H ++ K) : RowsA H' v rs := by
  obtain ⟨a, c, e, g⟩ := h
  refine ⟨a, c, e, fun h0 => ?_⟩
  obtain ⟨b, o, cs, e1, e2, h1, h2⟩ := g h0
  refine ⟨b, o, cs, e1, e2, rd_ext h1 he, fun i hi => ?_⟩
  obtain ⟨p, q, g1, g2, g3, g4⟩ := h2 i hi
  exact ⟨p, q, g1, g2, g3.ext he, g4.ext he⟩
theorem FRow.rows {H : AH} {v : Value} {n : Nat} {xs : List Value} {rs : List (List Int × List Int)} (h : FRow H v [.r, .r] n xs) (hv : cvs H xs = rowsV rs) : RowsA H v rs ∧ n = rs.length := by
  have hn : n = rs.length := by
    have := congrArg List.length hv
    have hl := h.len
    simp only [cvs, List.length_map, rowsV_len, List.length_cons, List.length_nil] at this hl
    omega
  subst hn
  obtain ⟨a, c, rfl, g⟩ := h.opn 2 rfl
  refine ⟨⟨a, c, rfl, fun h0 => ?_⟩, rfl⟩
  obtain ⟨b, o, cs, rfl, rfl, h1, h2, h3⟩ := g h0
  refine ⟨b, o, cs, rfl, rfl, h1, fun i hi => ?_⟩
  obtain ⟨h4, h5⟩ := h3 i hi
  obtain ⟨p, _, e, kp, q, _, rfl, kq, rfl⟩ := h.elemn 2 rfl hi
  rw [e] at h5
  obtain ⟨g1, g2⟩ := rowsV_get hi
  have e0 : (elm 2 xs i)[0]? = some p := by rw [e]; rfl
  have e1 : (elm 2 xs i)[1]? = some q := by rw [e]; rfl
  rw [elm_get (by omega)] at e0 e1
  rw [← hv] at g1 g2
  simp only [cvs, List.getElem?_map] at g1 g2
  rw [Nat.add_zero] at e0
  rw [e0, Option.map_some, cv_row kp.1] at g1
  rw [e1, Option.map_some, cv_row kq.1] at g2
  injection g1 with g1; injection g1 with g1
  injection g2 with g2; injection g2 with g2
  refine ⟨p, q, h5 0 p rfl, h5 1 q rfl, ?_, ?_⟩
  · rw [← g1]; exact kp.1
  · rw [← g2]; exact kq.1
theorem sizeI_ok {l : List Int} (h : 0 ≤ sizeI l) : l.length ≤ 3 ∧ (l.all fun x => inB x 0 300) = true ∧ sizeI l = prodI l := by
  unfold sizeI at h ⊢
  split at h
  · omega
  · rename_i h1
    split at h
    · rename_i h2
      split at h
      · omega
      · rename_i h3
        rw [if_neg h1, if_pos h2, if_neg h3]
        exact ⟨by omega, h2, rfl⟩
    · omega
theorem sizeI_of {l : List Int} (h1 : l.length ≤ 3) (h2 : (l.all fun x => inB x 0 300) = true) (h3 : prodI l ≤ 300) : sizeI l = prodI l := by
  unfold sizeI
  rw [if_neg (by omega), if_pos h2, if_neg (by omega)]
/-- The place of a number in a row that may be read, and the number. -/
theorem ixI {H : AH} {a : Option Addr} {n c : Nat} {l : List Int} (h : IntRow H (.slice a n c) l) {i : Nat} (hi : i < l.length) : ∃ b o cs, aIndexAddr Try.prog 24 (.slice a n c) (.int .i64 i) = some (.pointer (some ⟨b, o + i, none⟩)) ∧ rd H b = some cs ∧ cs[o + i]? = some (.int .i64 l[i]) := by
  obtain ⟨e, b, o, cs, rfl, rfl, h1, h2⟩ := h.cells hi
  subst e
  refine ⟨b, o, cs, ?_, h1, h2⟩
  rw [ix24, if_pos (by omega)]
  simp
theorem New.back {H0 H1 H : AH} {v : Value} {ks : List CK} {n : Nat} {ys : List Value} (h : New H1 H v ks n ys) (hl : H0.length ≤ H1.length) : New H0 H v ks n ys := ⟨h.ot, fun b hb => Nat.le_trans hl (h.fr b hb)⟩
theorem LD.rows {c : Option Nat} {H0 H : AH} {L : List It} {v : Value} {n : Nat} {ys : List Value} {rs : List (List Int × List Int)} (h : LD c H0 H L) (i : Nat) (hi : L[i]? = some (.cmp (.row v [.r, .r] n ys) (rowsV rs))) : RowsA H v rs ∧ n = rs.length := by
  obtain ⟨h1, h2⟩ := h.ok i _ hi
  exact FRow.rows (OT.frow h1) h2
theorem TabOk.ownOk {B : Nat → Prop} {H : AH} {v : Value} {ks : List CK} {n : Nat} {xs : List Value} (s : Nat) (hs : ks.length = s) (h : TabOk B H v ks n xs) : Go.Proofs.Ytockhdhilemfkaa.AM.ownOk v s H = true := by
  subst hs
  rcases h.row with ⟨rfl, rfl⟩ | ⟨b, o, cs, rfl, h1, h2, h3⟩
  · simp [Go.Proofs.Ytockhdhilemfkaa.AM.ownOk]
  · simp [Go.Proofs.Ytockhdhilemfkaa.AM.ownOk, h1]
/-- An element of a table that is only read: its rows, held as rows that are only read. -/
theorem LX.elem {c0 : Option Nat} {H0 H : AH} {L : List Ix} {v : Value} {n : Nat} {xs : List Value} {rs : List (List Int × List Int)} {k : Nat} (q : LX c0 H0 H L) (i : Nat) (hi : L[i]? = some (.ftab v [.r, .r] n xs (rowsV rs))) (hk : k < rs.length) :
    ∃ b o cs p p', v = .slice (some ⟨b, o, none⟩) n 2 ∧ Go.Proofs.Ytockhdhilemfkaa.AM.rd H b = some cs ∧ cs[o + k * 2]? = some p ∧ cs[o + k * 2 + 1]? = some p' ∧ LX c0 H0 H (.fro p rs[k].1 :: .fro p' rs[k].2 :: L) := by
  obtain ⟨B, h⟩ := q
  obtain ⟨t1, t2⟩ := h.ok i _ hi
  have hn : n = rs.length := (FRow.rows t1.fr t2).2
  have hl := t1.fr.len
  simp only [List.length_cons, List.length_nil] at hl
  rcases t1.fr.row with ⟨_, e⟩ | ⟨b, o, cs, e, h2, h3, h4⟩
  · omega
  · obtain ⟨g1, g2⟩ := rowsV_get hk
    have e0 := List.getElem?_eq_getElem (l := xs) (i := k * 2) (by omega)
    have e1 := List.getElem?_eq_getElem (l := xs) (i := k * 2 + 1) (by omega)
    have k0 := t1.fr.ok k 0 .r (xs[k * 2]'(by omega)) (by omega) rfl e0
    have k1 := t1.fr.ok k 1 .r _ (by omega) rfl e1
    rw [← t2] at g1 g2
    simp only [cvs, List.getElem?_map, e0, e1, Option.map_some, cv_row k0.1, cv_row k1.1, Option.some.injEq, CV.r.injEq] at g1 g2
    refine ⟨b, o, cs, _, _, by rw [e]; rfl, h2, h4 _ _ e0, by rw [Nat.add_assoc]; exact h4 _ _ e1, B, ?_⟩
    have m0 : ∀ g, blkOf (xs[k * 2]'(by omega)) = some g → B g := fun g hg => t1.base g (.inr ⟨_, List.getElem_mem _, hg⟩)
    have m1 : ∀ g, blkOf (xs[k * 2 + 1]'(by omega)) = some g → B g := fun g hg => t1.base g (.inr ⟨_, List.getElem_mem _, hg⟩)
    have h5 : LB B c0 H0 H (.fro _ rs[k].2 :: L) := h.add (x := .fro (xs[k * 2 + 1]'(by omega)) rs[k].2) (Nat.le_refl _) (fun b hb _ => rfl) h.cur ⟨by rw [← g2]; exact k1.1, m1⟩ fun b hb => hb.elim
    exact h5.add (x := .fro (xs[k * 2]'(by omega)) rs[k].1) (Nat.le_refl _) (fun b hb _ => rfl) h.cur ⟨by rw [← g1]; exact k0.1, m0⟩ fun b hb => hb.elim

theorem firstC_cons {x : Int} {l : List Int} : firstC (x :: l) = if x = 0 then firstC l else x := by
  by_cases h : x = 0
  · rw [if_pos h, ← List.singleton_append, firstC_app (by simpa using h)]
  · rw [if_neg h]; unfold firstC; simp [h]
theorem arrOk_size {sh dt : List Int} (h : arrOk sh dt = true) : sizeI sh = dt.length ∧ dt.length ≤ 300 := by
  have := arrOk_len h
  unfold arrOk at h
  simp only [Bool.and_eq_true, beq_iff_eq] at h
  exact ⟨h.1.symm, this⟩
theorem implTwo_eq {s a b : Int} {H : AH} {Φ : Value → AH → Prop} : CallsA Try.prog 55 #[.int .i64 s, .int .i64 a, .int .i64 b] H Φ = Φ (.tuple #[.int .i64 (twoF s a b).1, .int .i64 (twoF s a b).2]) H := (implTwo_ok s a b H).eq0

theorem twoF_num {s a b : Int} : numOk (twoF s a b).1 = true := by
  unfold twoF
  repeat' split
  all_goals first | decide | assumption
theorem getD_lt {α : Type} {l : List α} {i : Nat} {d : α} (h : i < l.length) : l.getD i d = l[i] := by rw [List.getD_eq_getElem?_getD, List.getElem?_eq_getElem h]; rfl
theorem sameArray_ok {H : AH} {pa qa pb qb : Value} {sa da sb db : List Int} (a : AR H pa qa sa da) (b : AR H pb qb sb db) : CallsA Try.prog 29 #[.agg #[pa, qa], .agg #[pb, qb]] H fun r H' => r = .bool (sa == sb && da == db) ∧ ∃ K, H' = H ++ K := by
  have al := a.l1
  have bl := a.l2
  obtain ⟨za, zc, zb, zd, rfl, rfl⟩ := a.o1
  obtain ⟨ya, yc, yb, yd, rfl, rfl⟩ := b.o1
  have q := (LX.nil (H := H))
  refine w29 ?_
  unfold k29
  simp -implicitDefEqProofs only [kz, kk0, kk1, kk2, kk3, ↓two_true, ↓two_false, mkv, aggAt, Nat.reduceLeDiff, Nat.reduceSub, Nat.reduceMul, implies_true, Nat.reduceEqDiff, reduceIte, Nat.reduceAdd, Nat.reduceBEq, reduceCtorEq, fa26_0, fa26_1, ld24]
  refine st_box q fun H1 q1 => ?_
  simp -implicitDefEqProofs only [kz, kk0, kk1, kk2, kk3, ↓two_true, ↓two_false, mkv, aggAt, Nat.reduceLeDiff, Nat.reduceSub, Nat.reduceMul, implies_true, Nat.reduceEqDiff, reduceIte, Nat.reduceAdd, Nat.reduceBEq, reduceCtorEq, fa26_0, fa26_1, ld24, q1.rd 0 rfl]
  refine st_box q1 fun H2 q2 => ?_
  have es1 := fun Φ => (sameInts_ok (a.os.ext q2.ext) (b.os.ext q2.ext) (by (try simp only [List.length_cons, List.length_nil, List.length_append, List.length_replicate, List.length_map, List.length_take, List.length_drop]); omega)).eq0 (Φ := Φ)
  simp -implicitDefEqProofs only [kz, kk0, kk1, kk2, kk3, ↓two_true, ↓two_false, mkv, aggAt, Nat.reduceLeDiff, Nat.reduceSub, Nat.reduceMul, implies_true, Nat.reduceEqDiff, reduceIte, Nat.reduceAdd, Nat.reduceBEq, reduceCtorEq, fa26_0, fa26_1, ld24, es1, q2.rd 0 rfl, q2.rd 1 rfl]
  refine two_intro (fun u1 => ?_) (fun u1 => ?_)
  ·
    have es2 := fun Φ => (sameInts_ok (a.od.ext q2.ext) (b.od.ext q2.ext) (by (try simp only [List.length_cons, List.length_nil, List.length_append, List.length_replicate, List.length_map, List.length_take, List.length_drop]); omega)).eq0 (Φ := Φ)
    try simp -implicitDefEqProofs only [kz, kk0, kk1, kk2, kk3, ↓two_true, ↓two_false, mkv, aggAt, Nat.reduceLeDiff, Nat.reduceSub, Nat.reduceMul, implies_true, Nat.reduceEqDiff, reduceIte, Nat.reduceAdd, Nat.reduceBEq, reduceCtorEq, fa26_0, fa26_1, ld24, es1, es2, q2.rd 0 rfl, q2.rd 1 rfl]
    -- end1
    exact ⟨by rw [u1, Bool.true_and], q2.ext⟩
  ·
    try simp -implicitDefEqProofs only [kz, kk0, kk1, kk2, kk3, ↓two_true, ↓two_false, mkv, aggAt, Nat.reduceLeDiff, Nat.reduceSub, Nat.reduceMul, implies_true, Nat.reduceEqDiff, reduceIte, Nat.reduceAdd, Nat.reduceBEq, reduceCtorEq, fa26_0, fa26_1, ld24, es1, q2.rd 0 rfl, q2.rd 1 rfl]
    -- end2
    exact ⟨by rw [u1, Bool.false_and], q2.ext⟩

theorem ARes.ans {H H' : AH} {r : Value} {R : (List Int × List Int) × Int} (h : ARes H H' r R) : Ans1 H H' r R := by
  obtain ⟨⟨a, c, b, d, rfl, h1, h2, h3, h4, h5, h6⟩, he⟩ := h
  exact ⟨_, _, rfl, ((LD.nil (H := H)).nrow2 (H' := H') ⟨h2, h5⟩ ⟨h3, h6⟩ h4 he)⟩

theorem implOuterA_ok {H : AH} {s : Int} {pa qa pb qb : Value} {sa da sb db : List Int} (a : AR H pa qa sa da) (b : AR H pb qb sb db) : CallsA Try.prog 53 #[.int .i64 s, .agg #[pa, qa], .agg #[pb, qb]] H fun r H' => Ans1 H H' r (outR s sa da sb db) :=
  (implOuter_ok a.os a.od b.os b.od a.l1 a.l2 b.l1 b.l2).mono fun _ _ h => h.ans

theorem specOuterA_ok {H : AH} {s : Int} {pa qa pb qb : Value} {sa da sb db : List Int} (a : AR H pa qa sa da) (b : AR H pb qb sb db) : CallsA Try.prog 54 #[.int .i64 s, .agg #[pa, qa], .agg #[pb, qb]] H fun r H' => Ans1 H H' r (outR s sa da sb db) :=
  (specOuter_ok a.os a.od b.os b.od a.l1 a.l2 b.l1 b.l2).mono fun _ _ h => h.ans

theorem l1DrawSign_ok {H : AH} {cb : Nat} (hc : Cur H cb) : CallsA Try.prog 121 #[.pointer (some ⟨cb, 0, none⟩)] H fun r H' => (∃ x : Int, r = .int .i64 x) ∧ Frm cb H H' := by
  refine w121 ?_
  unfold k121
  simp -implicitDefEqProofs only [kz, kk0, kk1, kk2, kk3, ↓two_true, ↓two_false, oS_some, oM_some, mkv, aggAt, Nat.reduceLeDiff, Nat.reduceSub, Nat.reduceMul, implies_true, Nat.reduceEqDiff, reduceIte, Nat.reduceAdd, Nat.reduceBEq, reduceCtorEq, bs24_5, bs24_11]
  refine (l1Once_ok hc).mono ?_
  rintro _ H1 ⟨⟨b, rfl⟩, hf⟩
  have q := (LX.nilc hc).call hf
  simp -implicitDefEqProofs only [kz, kk0, kk1, kk2, kk3, ↓two_true, ↓two_false, mkv, aggAt, Nat.reduceLeDiff, Nat.reduceSub, Nat.reduceMul, implies_true, Nat.reduceEqDiff, reduceIte, Nat.reduceAdd, Nat.reduceBEq, reduceCtorEq, bs24_5, bs24_11]
  refine two_intro (fun h => ?_) (fun h => ?_)
  · refine st_lit [0, -1, 105, 300, 47] rfl rfl q fun H2 q => ?_
    simp -implicitDefEqProofs only [kz, kk0, kk1, kk2, kk3, ↓two_true, ↓two_false, mkv, aggAt, Nat.reduceLeDiff, Nat.reduceSub, Nat.reduceMul, implies_true, Nat.reduceEqDiff, reduceIte, Nat.reduceAdd, Nat.reduceBEq, reduceCtorEq, bs24_5, bs24_11]
    refine (l1PickInt_ok q.cur (q.own 0 rfl) (q.nc 0 rfl) (by decide)).mono ?_
    rintro _ H3 ⟨⟨x, rfl, -⟩, hf⟩
    simp -implicitDefEqProofs only [kz, kk0, kk1, kk2, kk3, ↓two_true, ↓two_false, mkv, aggAt, Nat.reduceLeDiff, Nat.reduceSub, Nat.reduceMul, implies_true, Nat.reduceEqDiff, reduceIte, Nat.reduceAdd, Nat.reduceBEq, reduceCtorEq, bs24_5, bs24_11]
    exact ⟨⟨x, rfl⟩, (q.call hf).frm⟩
  · refine st_lit [43, 45, 42, 37, 124, 38, 94, 61, 60, 62, 126] rfl rfl q fun H2 q => ?_
    simp -implicitDefEqProofs only [kz, kk0, kk1, kk2, kk3, ↓two_true, ↓two_false, mkv, aggAt, Nat.reduceLeDiff, Nat.reduceSub, Nat.reduceMul, implies_true, Nat.reduceEqDiff, reduceIte, Nat.reduceAdd, Nat.reduceBEq, reduceCtorEq, bs24_5, bs24_11]
    refine (l1PickInt_ok q.cur (q.own 0 rfl) (q.nc 0 rfl) (by decide)).mono ?_
    rintro _ H3 ⟨⟨x, rfl, -⟩, hf⟩
    simp -implicitDefEqProofs only [kz, kk0, kk1, kk2, kk3, ↓two_true, ↓two_false, mkv, aggAt, Nat.reduceLeDiff, Nat.reduceSub, Nat.reduceMul, implies_true, Nat.reduceEqDiff, reduceIte, Nat.reduceAdd, Nat.reduceBEq, reduceCtorEq, bs24_5, bs24_11]
    exact ⟨⟨x, rfl⟩, (q.call hf).frm⟩

theorem DrawOuter_ok {H : AH} {v : Value} (hv : BRv H v) : CallsA Try.prog 52 #[v] H fun r H' => ∃ (s : Int) (psa qsa : Value) (sa da : List Int) (psb qsb : Value) (sb db : List Int), r = .tuple #[.int .i64 s, .agg #[psa, qsa], .agg #[psb, qsb]] ∧ LD none H H' [.row psa sa, .row qsa da, .row psb sb, .row qsb db] ∧ sa.length ≤ 1048576 ∧ da.length ≤ 1048576 ∧ sb.length ≤ 1048576 ∧ db.length ≤ 1048576 := by
  obtain ⟨a0, n0, c0, rfl, hn0, hb⟩ := hv
  have hv : BRv H (.slice a0 n0 c0) := ⟨a0, n0, c0, rfl, hn0, hb⟩
  have q := (LX.nil (H := H))
  refine w52 ?_
  unfold k52
  simp -implicitDefEqProofs only [kz, kk0, kk1, kk2, kk3, ↓two_true, ↓two_false, mkv, aggAt, Nat.reduceLeDiff, Nat.reduceSub, Nat.reduceMul, implies_true, Nat.reduceEqDiff, reduceIte, Nat.reduceAdd, Nat.reduceBEq, reduceCtorEq, al26, bs24_1, ld26, st26]
  refine st_box q fun H1 q1 => ?_
  simp -implicitDefEqProofs only [kz, kk0, kk1, kk2, kk3, ↓two_true, ↓two_false, mkv, aggAt, Nat.reduceLeDiff, Nat.reduceSub, Nat.reduceMul, implies_true, Nat.reduceEqDiff, reduceIte, Nat.reduceAdd, Nat.reduceBEq, reduceCtorEq, al26, bs24_1, ld26, st26, q1.rd 0 rfl]
  refine st_box q1 fun H2 q2 => ?_
  simp -implicitDefEqProofs only [kz, kk0, kk1, kk2, kk3, ↓two_true, ↓two_false, mkv, aggAt, Nat.reduceLeDiff, Nat.reduceSub, Nat.reduceMul, implies_true, Nat.reduceEqDiff, reduceIte, Nat.reduceAdd, Nat.reduceBEq, reduceCtorEq, al26, bs24_1, ld26, st26, q2.rd 0 rfl, q2.rd 1 rfl]
  refine (l1New_ok (BRv.ext hv q2.ext)).mono ?_
  rintro _ H3 ⟨cb, rfl, hc1, hcb1, he1⟩
  have q3 := q2.cursor he1 hc1 hcb1
  have hcb0 := Nat.le_trans q2.len hcb1
  simp -implicitDefEqProofs only [kz, kk0, kk1, kk2, kk3, ↓two_true, ↓two_false, mkv, aggAt, Nat.reduceLeDiff, Nat.reduceSub, Nat.reduceMul, implies_true, Nat.reduceEqDiff, reduceIte, Nat.reduceAdd, Nat.reduceBEq, reduceCtorEq, al26, bs24_1, ld26, st26, q3.rd 0 rfl, q3.rd 1 rfl]
  refine (l1DrawSign_ok q3.cur).mono ?_
  rintro _ H4 ⟨⟨s1, rfl⟩, hf1⟩
  have q4 := q3.call hf1
  simp -implicitDefEqProofs only [kz, kk0, kk1, kk2, kk3, ↓two_true, ↓two_false, mkv, aggAt, Nat.reduceLeDiff, Nat.reduceSub, Nat.reduceMul, implies_true, Nat.reduceEqDiff, reduceIte, Nat.reduceAdd, Nat.reduceBEq, reduceCtorEq, al26, bs24_1, ld26, st26, q4.rd 0 rfl, q4.rd 1 rfl]
  refine (l3Draw_ok q4.cur).mono ?_
  rintro _ H5 ⟨⟨p1, p2, xs1, xd1, rfl, d1, m1, m2⟩, hf2⟩
  have q5 := q4.da d1 hf2
  obtain ⟨a1, c1, rfl⟩ := (q5.own 0 rfl).isSlice
  obtain ⟨a2, c2, rfl⟩ := (q5.own 1 rfl).isSlice
  simp -implicitDefEqProofs only [kz, kk0, kk1, kk2, kk3, ↓two_true, ↓two_false, mkv, aggAt, Nat.reduceLeDiff, Nat.reduceSub, Nat.reduceMul, implies_true, Nat.reduceEqDiff, reduceIte, Nat.reduceAdd, Nat.reduceBEq, reduceCtorEq, al26, bs24_1, ld26, st26, q5.rd 2 rfl, q5.rd 3 rfl]
  refine st_box q5 fun H6 q6 => ?_
  simp -implicitDefEqProofs only [kz, kk0, kk1, kk2, kk3, ↓two_true, ↓two_false, mkv, aggAt, Nat.reduceLeDiff, Nat.reduceSub, Nat.reduceMul, implies_true, Nat.reduceEqDiff, reduceIte, Nat.reduceAdd, Nat.reduceBEq, reduceCtorEq, al26, bs24_1, ld26, st26, q6.rd 0 rfl, q6.rd 3 rfl, q6.rd 4 rfl]
  refine st_set q6 0 rfl fun H7 q7 => ?_
  simp only [List.set_cons_zero, List.set_cons_succ] at q7
  simp -implicitDefEqProofs only [kz, kk0, kk1, kk2, kk3, ↓two_true, ↓two_false, mkv, aggAt, Nat.reduceLeDiff, Nat.reduceSub, Nat.reduceMul, implies_true, Nat.reduceEqDiff, reduceIte, Nat.reduceAdd, Nat.reduceBEq, reduceCtorEq, al26, bs24_1, ld26, st26, q7.rd 0 rfl, q7.rd 3 rfl, q7.rd 4 rfl]
  refine (l3Draw_ok q7.cur).mono ?_
  rintro _ H8 ⟨⟨p3, p4, xs2, xd2, rfl, d2, m3, m4⟩, hf3⟩
  have q8 := q7.da d2 hf3
  obtain ⟨a3, c3, rfl⟩ := (q8.own 0 rfl).isSlice
  obtain ⟨a4, c4, rfl⟩ := (q8.own 1 rfl).isSlice
  simp -implicitDefEqProofs only [kz, kk0, kk1, kk2, kk3, ↓two_true, ↓two_false, mkv, aggAt, Nat.reduceLeDiff, Nat.reduceSub, Nat.reduceMul, implies_true, Nat.reduceEqDiff, reduceIte, Nat.reduceAdd, Nat.reduceBEq, reduceCtorEq, al26, bs24_1, ld26, st26, q8.rd 2 rfl, q8.rd 5 rfl, q8.rd 6 rfl]
  refine st_box q8 fun H9 q9 => ?_
  simp -implicitDefEqProofs only [kz, kk0, kk1, kk2, kk3, ↓two_true, ↓two_false, mkv, aggAt, Nat.reduceLeDiff, Nat.reduceSub, Nat.reduceMul, implies_true, Nat.reduceEqDiff, reduceIte, Nat.reduceAdd, Nat.reduceBEq, reduceCtorEq, al26, bs24_1, ld26, st26, q9.rd 0 rfl, q9.rd 3 rfl, q9.rd 6 rfl, q9.rd 7 rfl]
  refine st_set q9 0 rfl fun H10 q10 => ?_
  simp only [List.set_cons_zero, List.set_cons_succ] at q10
  simp -implicitDefEqProofs only [kz, kk0, kk1, kk2, kk3, ↓two_true, ↓two_false, mkv, aggAt, Nat.reduceLeDiff, Nat.reduceSub, Nat.reduceMul, implies_true, Nat.reduceEqDiff, reduceIte, Nat.reduceAdd, Nat.reduceBEq, reduceCtorEq, al26, bs24_1, ld26, st26, q10.rd 0 rfl, q10.rd 3 rfl, q10.rd 6 rfl, q10.rd 7 rfl]
  refine (l1Once_ok q10.cur).mono ?_
  rintro _ H11 ⟨⟨bb1, rfl⟩, hf4⟩
  have q11 := q10.call hf4
  simp -implicitDefEqProofs only [kz, kk0, kk1, kk2, kk3, ↓two_true, ↓two_false, mkv, aggAt, Nat.reduceLeDiff, Nat.reduceSub, Nat.reduceMul, implies_true, Nat.reduceEqDiff, reduceIte, Nat.reduceAdd, Nat.reduceBEq, reduceCtorEq, al26, bs24_1, ld26, st26, q11.rd 0 rfl, q11.rd 3 rfl, q11.rd 6 rfl, q11.rd 7 rfl]
  refine two_intro (fun u1 => ?_) (fun u1 => ?_)
  ·
    try simp -implicitDefEqProofs only [kz, kk0, kk1, kk2, kk3, ↓two_true, ↓two_false, mkv, aggAt, Nat.reduceLeDiff, Nat.reduceSub, Nat.reduceMul, implies_true, Nat.reduceEqDiff, reduceIte, Nat.reduceAdd, Nat.reduceBEq, reduceCtorEq, al26, bs24_1, ld26, st26, q11.rd 0 rfl, q11.rd 3 rfl, q11.rd 6 rfl, q11.rd 7 rfl]
    refine (l1Below_ok q11.cur).mono ?_
    rintro _ H12 ⟨⟨x1, rfl, -, hx1⟩, hf5⟩
    have q12 := q11.call hf5
    simp -implicitDefEqProofs only [kz, kk0, kk1, kk2, kk3, ↓two_true, ↓two_false, mkv, aggAt, Nat.reduceLeDiff, Nat.reduceSub, Nat.reduceMul, implies_true, Nat.reduceEqDiff, reduceIte, Nat.reduceAdd, Nat.reduceBEq, reduceCtorEq, al26, bs24_1, ld26, st26, q12.rd 0 rfl, q12.rd 3 rfl, q12.rd 6 rfl, q12.rd 7 rfl]
    refine st_lit [x1] rfl rfl q12 fun H13 q13 => ?_
    simp -implicitDefEqProofs only [kz, kk0, kk1, kk2, kk3, ↓two_true, ↓two_false, mkv, aggAt, Nat.reduceLeDiff, Nat.reduceSub, Nat.reduceMul, implies_true, Nat.reduceEqDiff, reduceIte, Nat.reduceAdd, Nat.reduceBEq, reduceCtorEq, al26, bs24_1, ld26, st26, q13.rd 1 rfl, q13.rd 4 rfl, q13.rd 7 rfl, q13.rd 8 rfl]
    refine (l3Fill_ok q13.cur (q13.own 0 rfl) (q13.nc 0 rfl) (by first | omega | (simp; omega) | simp)).mono ?_
    rintro _ H14 ⟨⟨p5, p6, xd3, rfl, d3, n1, -⟩, hf6⟩
    have hl_xd3 : xd3.length ≤ 300 := by have := sizeI_le (l := [x1]); omega
    have q14 := q13.da d3 hf6
    obtain ⟨a5, c5, rfl⟩ := (q14.own 0 rfl).isSlice
    obtain ⟨a6, c6, rfl⟩ := (q14.own 1 rfl).isSlice
    simp -implicitDefEqProofs only [kz, kk0, kk1, kk2, kk3, ↓two_true, ↓two_false, mkv, aggAt, Nat.reduceLeDiff, Nat.reduceSub, Nat.reduceMul, implies_true, Nat.reduceEqDiff, reduceIte, Nat.reduceAdd, Nat.reduceBEq, reduceCtorEq, al26, bs24_1, ld26, st26, q14.rd 3 rfl, q14.rd 6 rfl, q14.rd 9 rfl, q14.rd 10 rfl]
    refine st_set q14 3 rfl fun H15 q15 => ?_
    simp only [List.set_cons_zero, List.set_cons_succ] at q15
    simp -implicitDefEqProofs only [kz, kk0, kk1, kk2, kk3, ↓two_true, ↓two_false, mkv, aggAt, Nat.reduceLeDiff, Nat.reduceSub, Nat.reduceMul, implies_true, Nat.reduceEqDiff, reduceIte, Nat.reduceAdd, Nat.reduceBEq, reduceCtorEq, al26, bs24_1, ld26, st26, q15.rd 3 rfl, q15.rd 6 rfl, q15.rd 9 rfl, q15.rd 10 rfl]
    refine st_set q15 10 rfl fun H16 q16 => ?_
    simp only [List.set_cons_zero, List.set_cons_succ] at q16
    simp -implicitDefEqProofs only [kz, kk0, kk1, kk2, kk3, ↓two_true, ↓two_false, mkv, aggAt, Nat.reduceLeDiff, Nat.reduceSub, Nat.reduceMul, implies_true, Nat.reduceEqDiff, reduceIte, Nat.reduceAdd, Nat.reduceBEq, reduceCtorEq, al26, bs24_1, ld26, st26, q16.rd 3 rfl, q16.rd 6 rfl, q16.rd 9 rfl, q16.rd 10 rfl, q15.rd 3 rfl, q15.rd 6 rfl, q15.rd 9 rfl, q15.rd 10 rfl]
    refine st_set q16 9 rfl fun H17 q17 => ?_
    simp only [List.set_cons_zero, List.set_cons_succ] at q17
    simp -implicitDefEqProofs only [kz, kk0, kk1, kk2, kk3, ↓two_true, ↓two_false, mkv, aggAt, Nat.reduceLeDiff, Nat.reduceSub, Nat.reduceMul, implies_true, Nat.reduceEqDiff, reduceIte, Nat.reduceAdd, Nat.reduceBEq, reduceCtorEq, al26, bs24_1, ld26, st26, q17.rd 3 rfl, q17.rd 6 rfl, q17.rd 9 rfl, q17.rd 10 rfl, q15.rd 3 rfl, q15.rd 6 rfl, q15.rd 9 rfl, q15.rd 10 rfl, q16.rd 3 rfl, q16.rd 6 rfl, q16.rd 9 rfl, q16.rd 10 rfl]
    -- end1
    exact ⟨s1, _, _, xs1, xd1, _, _, [x1], xd3, rfl, (q17.out hcb0).give [7, 8, 0, 1] (by decide) _ rfl, (by first | omega | (simp; omega) | simp), (by first | omega | (simp; omega) | simp), (by first | omega | (simp; omega) | simp), (by first | omega | (simp; omega) | simp)⟩
  ·
    try simp -implicitDefEqProofs only [kz, kk0, kk1, kk2, kk3, ↓two_true, ↓two_false, mkv, aggAt, Nat.reduceLeDiff, Nat.reduceSub, Nat.reduceMul, implies_true, Nat.reduceEqDiff, reduceIte, Nat.reduceAdd, Nat.reduceBEq, reduceCtorEq, al26, bs24_1, ld26, st26, q11.rd 0 rfl, q11.rd 3 rfl, q11.rd 6 rfl, q11.rd 7 rfl]
    refine st_set q11 7 rfl fun H18 q18 => ?_
    simp only [List.set_cons_zero, List.set_cons_succ] at q18
    simp -implicitDefEqProofs only [kz, kk0, kk1, kk2, kk3, ↓two_true, ↓two_false, mkv, aggAt, Nat.reduceLeDiff, Nat.reduceSub, Nat.reduceMul, implies_true, Nat.reduceEqDiff, reduceIte, Nat.reduceAdd, Nat.reduceBEq, reduceCtorEq, al26, bs24_1, ld26, st26, q18.rd 0 rfl, q18.rd 3 rfl, q18.rd 6 rfl, q18.rd 7 rfl, q11.rd 0 rfl, q11.rd 3 rfl, q11.rd 6 rfl, q11.rd 7 rfl]
    refine st_set q18 6 rfl fun H19 q19 => ?_
    simp only [List.set_cons_zero, List.set_cons_succ] at q19
    simp -implicitDefEqProofs only [kz, kk0, kk1, kk2, kk3, ↓two_true, ↓two_false, mkv, aggAt, Nat.reduceLeDiff, Nat.reduceSub, Nat.reduceMul, implies_true, Nat.reduceEqDiff, reduceIte, Nat.reduceAdd, Nat.reduceBEq, reduceCtorEq, al26, bs24_1, ld26, st26, q19.rd 0 rfl, q19.rd 3 rfl, q19.rd 6 rfl, q19.rd 7 rfl, q11.rd 0 rfl, q11.rd 3 rfl, q11.rd 6 rfl, q11.rd 7 rfl, q18.rd 0 rfl, q18.rd 3 rfl, q18.rd 6 rfl, q18.rd 7 rfl]
    -- end2
    exact ⟨s1, _, _, xs1, xd1, _, _, xs2, xd2, rfl, (q19.out hcb0).give [4, 5, 1, 2] (by decide) _ rfl, (by first | omega | (simp; omega) | simp), (by first | omega | (simp; omega) | simp), (by first | omega | (simp; omega) | simp), (by first | omega | (simp; omega) | simp)⟩

theorem arrOk_prod {sa da : List Int} (h : arrOk sa da = true) : sa.length ≤ 3 ∧ (∀ x ∈ sa, ∃ n : Nat, x = n ∧ n ≤ 300) ∧ prodI sa = da.length ∧ da.length ≤ 300 := by
  have h1 := (arrOk_size h)
  obtain ⟨e1, e2, e3⟩ := sizeI_ok (l := sa) (by omega)
  refine ⟨e1, fun x hx => ?_, by omega, h1.2⟩
  have := inB_true.1 (List.all_eq_true.1 e2 x hx)
  exact ⟨x.toNat, by omega, by omega⟩
theorem cell_div {i k r : Nat} (h : k < r) : (i * r + k) / r = i ∧ (i * r + k) % r = k := by
  constructor
  · rw [Nat.mul_comm, Nat.mul_add_div (by omega), Nat.div_eq_of_lt h, Nat.add_zero]
  · rw [Nat.mul_comm, Nat.mul_add_mod, Nat.mod_eq_of_lt h]
theorem inn_lt {i k m p : Nat} (h1 : i < p) (h2 : k < m) : i * m + k < p * m := by
  have := Nat.mul_le_mul_right m (show i + 1 ≤ p from h1)
  rw [Nat.add_mul, Nat.one_mul] at this
  omega
theorem wrapN {n : Nat} (h : n ≤ 1000000000000) : IntKind.i64.wrap (n : Int) = (n : Int) := IntWalk.i64_in _ (by omega)
def idxQ (sh : List Int) (p j : Nat) : Nat := p / (prodI (sh.drop j)).toNat
def idxV (sh : List Int) (p j : Nat) : Nat := idxQ sh p (j + 1) % (sh.getD j 0).toNat
def idxG (sh : List Int) (p j : Nat) : List Int := (List.range sh.length).map fun i => if i < j then 0 else (idxV sh p i : Int)
theorem flat_zeroI {w : Nat} : (List.replicate w [Value.int .i64 0]).flatten = ints (List.replicate w 0) := by
  induction w with
  | zero => rfl
  | succ w ih => rw [List.replicate_succ, List.flatten_cons, ih]; simp [ints, List.replicate_succ]
theorem idxG_len {sh : List Int} {p j : Nat} : (idxG sh p j).length = sh.length := by simp [idxG]
theorem idxG_top {sh : List Int} {p : Nat} : idxG sh p sh.length = List.replicate sh.length 0 := by
  refine List.ext_getElem (by simp [idxG]) fun i h1 h2 => ?_
  rw [idxG_len] at h1
  simp [idxG, h1]
theorem idxG_set {sh : List Int} {p j : Nat} (h : j < sh.length) : (idxG sh p (j + 1)).set j (idxV sh p j : Int) = idxG sh p j := by
  refine List.ext_getElem (by simp [idxG]) fun i h1 h2 => ?_
  rw [idxG_len] at h2
  rw [List.getElem_set]
  simp only [idxG, List.getElem_map, List.getElem_range]
  by_cases e : j = i
  · subst e; rw [if_pos rfl, if_neg (by omega)]
  · rw [if_neg e]
    by_cases e2 : i < j
    · rw [if_pos (by omega), if_pos e2]
    · rw [if_neg (by omega), if_neg e2]
theorem idxQ_step {sh : List Int} {p j : Nat} (h : j < sh.length) (hn : ∀ x ∈ sh, ∃ n : Nat, x = n) : idxQ sh p j = idxQ sh p (j + 1) / (sh.getD j 0).toNat := by
  unfold idxQ
  rw [List.drop_eq_getElem_cons h, prodI_cons, getD_lt h, Nat.div_div_eq_div_mul]
  obtain ⟨n, e⟩ := hn _ (List.getElem_mem h)
  have hp : ∀ l : List Int, (∀ x ∈ l, ∃ n : Nat, x = n) → ∃ m : Nat, prodI l = m := by
    intro l
    induction l with
    | nil => intro _; exact ⟨1, rfl⟩
    | cons y l ih =>
      intro hl
      obtain ⟨a, ea⟩ := hl y (by simp); subst ea
      obtain ⟨m, e⟩ := ih fun x hx => hl x (by simp [hx])
      exact ⟨a * m, by rw [prodI_cons, e, Int.natCast_mul]⟩
  obtain ⟨m, e2⟩ := hp (sh.drop (j + 1)) fun x hx => hn x (List.mem_of_mem_drop hx)
  rw [e, e2, ← Int.natCast_mul, Int.toNat_natCast, Int.toNat_natCast, Int.toNat_natCast, Nat.mul_comm]
theorem idxQ_top {sh : List Int} {p : Nat} : idxQ sh p sh.length = p := by unfold idxQ; rw [List.drop_length]; simp [prodI]
theorem prod_zero {l : List Int} (h : (0 : Int) ∈ l) : prodI l = 0 := by
  induction l with
  | nil => simp at h
  | cons x l ih =>
    rw [prodI_cons]
    rcases List.mem_cons.1 h with e | e
    · rw [← e, Int.zero_mul]
    · rw [ih e, Int.mul_zero]

theorem implIndexOf_ok {H : AH} {va : Value} {sh : List Int} {p : Nat} (ha : IntRow H va sh) (hl : sh.length ≤ 1048576) (hp : (p : Int) < sizeI sh) : CallsA Try.prog 82 #[va, .int .i64 p] H fun r H' => AnsI H H' r (idxG sh p 0) := by
  obtain ⟨xa, xc, rfl, -⟩ := ha.op
  obtain ⟨e1, e2, e3⟩ := sizeI_ok (l := sh) (by omega)
  have hn : ∀ x ∈ sh, ∃ n : Nat, x = n ∧ n ≤ 300 := fun x hx => by
    have := inB_true.1 (List.all_eq_true.1 e2 x hx)
    exact ⟨x.toNat, by omega, by omega⟩
  have hn0 : ∀ x ∈ sh, x ≠ 0 := fun x hx e => by
    have := prod_zero (e ▸ hx); omega
  have hle := sizeI_le (l := sh)
  have wsz : IntKind.i64.wrap (sizeI sh - 1) = sizeI sh - 1 := IntWalk.i64_in _ (by omega)
  have hin : inB (p : Int) 0 (sizeI sh - 1) = true := inB_true.2 (by omega)
  have hso : decide (sizeI sh ≥ 0) = true := by simp; omega
  have hw : 0 ≤ (sh.length : Int) ∧ (sh.length : Int) ≤ 1073741824 := by omega
  have wl : IntKind.i64.wrap ((sh.length : Int) - 1) = (sh.length : Int) - 1 := IntWalk.i64_in _ (by omega)
  have q := (LX.nil (H := H))
  refine w82 ?_
  unfold k82
  have es1 := fun Φ => (implSizeOf_ok (ha.ext q.ext) (by omega)).eq0 (Φ := Φ)
  simp -implicitDefEqProofs only [kz, kk0, kk1, kk2, kk3, ↓two_true, ↓two_false, mkv, aggAt, Nat.reduceLeDiff, Nat.reduceSub, Nat.reduceMul, implies_true, Nat.reduceEqDiff, reduceIte, Nat.reduceAdd, Nat.reduceBEq, reduceCtorEq, ix24, ld3, ln24, ms24, st3, within_eq, wsz, hin, hso, Bool.not_true, if_pos hw, Int.toNat_natCast, wl, es1]
  refine st_lit (List.replicate sh.length 0) flat_zeroI (by simp) q fun H1 q1 => ?_
  simp -implicitDefEqProofs only [kz, kk0, kk1, kk2, kk3, ↓two_true, ↓two_false, mkv, aggAt, Nat.reduceLeDiff, Nat.reduceSub, Nat.reduceMul, implies_true, Nat.reduceEqDiff, reduceIte, Nat.reduceAdd, Nat.reduceBEq, reduceCtorEq, ix24, ld3, ln24, ms24, st3, within_eq, wsz, hin, hso, Bool.not_true, if_pos hw, Int.toNat_natCast, wl, es1]
  refine rW_loopQ (σ := Nat) q1 [0, 4, 5] (fun x tm => tm 6 = .int .i64 ((x : Int) - 1) ∧ tm 1 = .int .i64 (idxQ sh p x) ∧ x ≤ sh.length) (fun x L => L.set 0 (.own (.row (.slice (some ⟨H.length, 0, none⟩) sh.length 1) (idxG sh p x)))) (fun x => x) sh.length ⟨rfl, by rw [idxQ_top]; first | rfl | assumption, Nat.le_refl _⟩ (by simp only [idxG_top]; rfl) ?_
  rintro j tm1 H2 ⟨lv1, lv2, lv3, -⟩ ⟨kj, kp, hj⟩ q2
  simp -implicitDefEqProofs only [kz, kk0, kk1, kk2, kk3, ↓two_true, ↓two_false, mkv, aggAt, Nat.reduceLeDiff, Nat.reduceSub, Nat.reduceMul, implies_true, Nat.reduceEqDiff, reduceIte, Nat.reduceAdd, Nat.reduceBEq, reduceCtorEq, ix24, ld3, ln24, ms24, st3, es1] at lv1 lv2 lv3
  simp only [List.set_cons_zero, List.set_cons_succ] at q2
  simp -implicitDefEqProofs only [kz, kk0, kk1, kk2, kk3, ↓two_true, ↓two_false, mkv, aggAt, Nat.reduceLeDiff, Nat.reduceSub, Nat.reduceMul, implies_true, Nat.reduceEqDiff, reduceIte, Nat.reduceAdd, Nat.reduceBEq, reduceCtorEq, ix24, ld3, ln24, ms24, st3, within_eq, wsz, hin, hso, Bool.not_true, if_pos hw, Int.toNat_natCast, wl, es1, lv1, lv2, lv3, kj, kp]
  refine two_intro (fun u1 => ?_) (fun u1 => ?_)
  ·
    have hj0 : 0 < j := by have h5 := of_decide_eq_true u1; omega
    obtain ⟨i, rfl⟩ : ∃ i, j = i + 1 := ⟨j - 1, by omega⟩
    have hi : i < sh.length := by omega
    have eJ : ((i + 1 : Nat) : Int) - 1 = (i : Int) := by omega
    obtain ⟨ni, hni, hni3⟩ := hn _ (List.getElem_mem hi)
    have hni0 : (ni : Int) ≠ 0 := by rw [← hni]; exact hn0 _ (List.getElem_mem hi)
    have hgd : (sh.getD i 0).toNat = ni := by rw [getD_lt hi, hni]; simp
    have wr : ((idxQ sh p (i + 1) : Nat) : Int).tmod (ni : Int) = ((idxV sh p i : Nat) : Int) := by unfold idxV; rw [hgd, Int.tmod_eq_emod_of_nonneg (by omega)]; rfl
    have wq : ((idxQ sh p (i + 1) : Nat) : Int).tdiv (ni : Int) = ((idxQ sh p i : Nat) : Int) := by rw [idxQ_step hi (fun x hx => (hn x hx).imp fun _ h => h.1), hgd, Int.tdiv_eq_ediv_of_nonneg (by omega)]; rfl
    have hql : idxQ sh p i ≤ p := Nat.div_le_self _ _
    have wq1 : IntKind.i64.wrap ((idxQ sh p i : Nat) : Int) = ((idxQ sh p i : Nat) : Int) := IntWalk.i64_in _ (by omega)
    have wi : IntKind.i64.wrap ((i : Int) - 1) = (i : Int) - 1 := IntWalk.i64_in _ (by omega)
    obtain ⟨b1, o1, cs1, ei1, fr1, fc1⟩ := ixI (ha.ext q2.ext) (i := i) hi
    obtain ⟨b2, o2, cs2, ei2, fw1, fr2, fl1, fc2, qw1⟩ := q2.wrI 0 rfl (k := i) (by rw [idxG_len]; exact hi)
    try simp -implicitDefEqProofs only [kz, kk0, kk1, kk2, kk3, ↓two_true, ↓two_false, mkv, aggAt, Nat.reduceLeDiff, Nat.reduceSub, Nat.reduceMul, implies_true, Nat.reduceEqDiff, reduceIte, Nat.reduceAdd, Nat.reduceBEq, reduceCtorEq, ix24, ld3, ln24, ms24, st3, within_eq, wsz, hin, hso, Bool.not_true, if_pos hw, Int.toNat_natCast, wl, es1, eJ, hni, bin_rem hni0, bin_quo hni0, wr, wq, wq1, wi, ei1, fr1, fc1, ei2, fw1, fr2, fl1, fc2, lv1, lv2, lv3, kj, kp]
    refine st_q (qw1 _) fun H3 q3 => ?_
    simp only [List.set_cons_zero, List.set_cons_succ] at q3
    obtain ⟨b3, o3, cs3, ei3, fr3, fc3⟩ := ixI (ha.ext q3.ext) (i := i) hi
    simp -implicitDefEqProofs only [kz, kk0, kk1, kk2, kk3, ↓two_true, ↓two_false, mkv, aggAt, Nat.reduceLeDiff, Nat.reduceSub, Nat.reduceMul, implies_true, Nat.reduceEqDiff, reduceIte, Nat.reduceAdd, Nat.reduceBEq, reduceCtorEq, ix24, ld3, ln24, ms24, st3, within_eq, wsz, hin, hso, Bool.not_true, if_pos hw, Int.toNat_natCast, wl, es1, eJ, hni, bin_rem hni0, bin_quo hni0, wr, wq, wq1, wi, ei3, fr3, fc3, lv1, lv2, lv3, kj, kp]
    -- back loop1
    refine ⟨i, (by omega), ⟨rfl, rfl, rfl, trivial⟩, ⟨by first | rfl | simp, by first | rfl | simp, by omega⟩, ?_⟩
    try simp only [List.set_cons_zero, List.set_cons_succ]
    rw [← idxG_set hi]
    exact q3
  ·
    have hj0 : j = 0 := by have h5 := of_decide_eq_false u1; omega
    subst hj0
    try simp -implicitDefEqProofs only [kz, kk0, kk1, kk2, kk3, ↓two_true, ↓two_false, mkv, aggAt, Nat.reduceLeDiff, Nat.reduceSub, Nat.reduceMul, implies_true, Nat.reduceEqDiff, reduceIte, Nat.reduceAdd, Nat.reduceBEq, reduceCtorEq, ix24, ld3, ln24, ms24, st3, within_eq, wsz, hin, hso, Bool.not_true, if_pos hw, Int.toNat_natCast, wl, es1, lv1, lv2, lv3, kj, kp]
    -- end1
    exact q2.ansI 0 rfl rfl

def placeG (sh ix : List Int) : Nat → Int
  | 0 => 0
  | k + 1 => placeG sh ix k * sh.getD k 0 + ix.getD k 0
theorem place_le {sh ix : List Int} (h : ∀ k, k < sh.length → 0 ≤ sh.getD k 0 ∧ sh.getD k 0 ≤ 300 ∧ 0 ≤ ix.getD k 0 ∧ ix.getD k 0 < sh.getD k 0) : ∀ k, k ≤ sh.length → 0 ≤ placeG sh ix k ∧ placeG sh ix k ≤ 301 ^ k - 1 := by
  intro k
  induction k with
  | zero => intro _; exact ⟨Int.le_refl _, by simp [placeG]⟩
  | succ k ih =>
    intro hk
    obtain ⟨i1, i2⟩ := ih (by omega)
    obtain ⟨a1, a2, a3, a4⟩ := h k (by omega)
    simp only [placeG]
    have hm : 0 ≤ placeG sh ix k * sh.getD k 0 := Int.mul_nonneg i1 a1
    have hm2 : placeG sh ix k * sh.getD k 0 ≤ (301 ^ k - 1) * 300 := Int.mul_le_mul i2 a2 a1 (by omega)
    refine ⟨by omega, ?_⟩
    rw [Int.pow_succ]
    omega
theorem pow301 {k : Nat} (h : k ≤ 3) : (301 : Int) ^ k ≤ 27270901 := by
  match k, h with
  | 0, _ => decide
  | 1, _ => decide
  | 2, _ => decide
  | 3, _ => decide
end Go.Proofs.Ytockhdhilemfkaa.AM
