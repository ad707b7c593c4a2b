/- What the functions answer, part 2. -/
import Derived.Test.YtdagncfnkenbfaaP1
set_option linter.unusedVariables false
set_option linter.unusedSimpArgs false
set_option linter.defProp false
set_option maxRecDepth 100000
/- What the functions answer, part 2. -/
namespace Go.Proofs.Ytdagncfnkenbfaa.AM
open Go Go.Proofs.Ytdagncfnkenbfaa Go.Proofs
set_option maxHeartbeats 4000000 in
theorem l9Nums_ok {H : AH} {v : Value} {l : List Int} (hv : IntRow H v l) (hl : l.length < 4611686018427387904) : CallsA Try.prog 81 #[v] H fun r H' => r = .bool (numsOk l) ∧ H' = H := by
  obtain ⟨a, c, rfl, gv⟩ := hv.op
  refine w81 ?_
  unfold k81
  simp -implicitDefEqProofs only [kz, kk0, kk1, kk2, kk3, ↓two_true, ↓two_false, oS_some, oM_some, mkv, aggAt, Nat.reduceLeDiff, Nat.reduceSub, Nat.reduceMul, implies_true, Nat.reduceEqDiff, reduceIte, Nat.reduceAdd, Nat.reduceBEq, reduceCtorEq, ix64, ld3, ln64]
  refine rW_loop (σ := Nat) (fun i tm H' => tm 0 = .slice a l.length c ∧ tm 3 = .int .i64 i ∧ H' = H ∧ i ≤ l.length ∧ ∀ x ∈ l.take i, numOk x = true) (fun i => l.length - i) 0 ?_ ?_
  · simp -implicitDefEqProofs [kk0, kk1, kk2, kk3, rW_block, ↓two_true, ↓two_false, rW_cond, rO_guard, oS_some, oM_some, mkv, aggAt, Nat.reduceLeDiff, Nat.reduceSub, Nat.reduceMul, cond_true, cond_false, Option.bind_some, List.length_append, List.length_cons, List.length_nil, List.append_assoc, List.cons_append, List.nil_append, List.set_cons_zero, List.set_cons_succ, List.size_toArray, List.all_cons, List.all_nil, List.drop_zero, List.drop_succ_cons, List.take_succ_cons, List.take_zero, List.mem_cons, Prod.mk.injEq, List.not_mem_nil, implies_true, List.getElem?_toArray, List.getElem?_cons_zero, List.getElem?_cons_succ, List.getElem?_nil, Option.getD_some, Option.getD_none, Nat.reduceEqDiff, reduceIte, Nat.reduceAdd, List.map_toArray, List.map_cons, List.map_nil, Bool.false_eq_true, Nat.reduceBEq, Option.map_some, Option.map_none, reduceCtorEq, ix64, ld3, ln64]
  · rintro i tm H' ⟨h0, h3, rfl, hi, hn⟩
    simp -implicitDefEqProofs only [kz, kk0, kk1, kk2, kk3, ↓two_true, ↓two_false, oS_some, oM_some, mkv, aggAt, Nat.reduceLeDiff, Nat.reduceSub, Nat.reduceMul, implies_true, Nat.reduceEqDiff, reduceIte, Nat.reduceAdd, Nat.reduceBEq, reduceCtorEq, ix64, ld3, ln64, h0, h3, l1In_eq]
    refine two_intro (fun hc => ?_) (fun hc => ?_)
    · have hc' : i < l.length := by simpa using hc
      obtain ⟨b, o, cs, rfl, rfl, hrd, _, hcell⟩ := gv (by omega)
      simp -implicitDefEqProofs only [kz, kk0, kk1, kk2, kk3, ↓two_true, ↓two_false, oS_some, oM_some, mkv, aggAt, Nat.reduceLeDiff, Nat.reduceSub, Nat.reduceMul, implies_true, Nat.reduceEqDiff, reduceIte, Nat.reduceAdd, Nat.reduceBEq, reduceCtorEq, ix64, ld3, ln64, h0, h3, specNumOk_eq, Int.toNat_natCast, Nat.mul_one, hrd, hcell i hc', IntWalk.i64_in (↑i + 1) (by omega)]
      refine ⟨⟨by omega, by omega⟩, two_intro (fun h => ?_) (fun h => ?_)⟩
      · have hb : numOk l[i] = false := by simpa using h
        rw [numsOk, all_take_false hc' hb]
        simp
      · refine ⟨i + 1, by omega, by simp, hc', fun x hx => ?_⟩
        rw [List.take_succ_eq_append_getElem hc'] at hx
        rcases List.mem_append.1 hx with hx | hx
        · exact hn x hx
        · rw [List.mem_singleton.1 hx]; simpa using h
    · have hc' : ¬ i < l.length := by simpa using hc
      have hil : i = l.length := by omega
      subst hil
      rw [List.take_length] at hn
      have hall : l.all numOk = true := List.all_eq_true.2 hn
      rw [numsOk, hall]
      simp
theorem l9Nums_eq {H : AH} {v : Value} (hv : OkI H v) (hl : (rowI H v).length < 4611686018427387904) {Φ : Value → AH → Prop} : CallsA Try.prog 81 #[v] H Φ = Φ (.bool (numsOk (rowI H v))) H := (l9Nums_ok hv hl).eq0

set_option maxHeartbeats 4000000 in
theorem implInstrOk_el {H : AH} {x : List Value} (hx : All2 H kInstr x) : CallsA Try.prog 61 #[.agg x.toArray] H fun r H' => r = .bool (insOk (insOf (x.map (cv H)))) ∧ ∃ K, H' = H ++ K := by
  obtain ⟨op, a, s, o, w, y, rfl, ky, e⟩ := all2_instr hx
  rw [e]
  obtain ⟨a', c', e1⟩ := ky.1.slice
  have i1 : IntRow H y (rowI H y) := ky.1
  have w1 := ky.2
  generalize rowI H y = m at *
  subst e1
  have en := fun (L : AH) Φ => implNumsOk_eq (H := H ++ L) (Φ := Φ) i1.mono.ok (by rw [i1.mono.row]; omega)
  have er := fun (L : AH) => (i1.mono (L := L)).row
  refine w61 ?_
  unfold k61
  simp -implicitDefEqProofs only [kz, kk0, kk1, kk2, kk3, ↓two_true, ↓two_false, oS_some, oM_some, mkv, aggAt, Nat.reduceLeDiff, Nat.reduceSub, Nat.reduceMul, implies_true, Nat.reduceEqDiff, reduceIte, Nat.reduceAdd, Nat.reduceBEq, reduceCtorEq, bd63, ef63, eg63, fa66_0, fa66_1, fa66_2, fa66_3, ld3, ld63, ld64, ln64, en, er, within_eq, implFunOne_eq, implFunTwo_eq]
  simp +contextual [two, insOk]

set_option maxHeartbeats 4000000 in
theorem l11Instr_el {H : AH} {x : List Value} (hx : All2 H kInstr x) : CallsA Try.prog 66 #[.agg x.toArray] H fun r H' => r = .bool (insOk (insOf (x.map (cv H)))) ∧ ∃ K, H' = H ++ K := by
  obtain ⟨op, a, s, o, w, y, rfl, ky, e⟩ := all2_instr hx
  rw [e]
  obtain ⟨a', c', e1⟩ := ky.1.slice
  have i1 : IntRow H y (rowI H y) := ky.1
  have w1 := ky.2
  generalize rowI H y = m at *
  subst e1
  have en := fun (L : AH) Φ => l9Nums_eq (H := H ++ L) (Φ := Φ) i1.mono.ok (by rw [i1.mono.row]; omega)
  have er := fun (L : AH) => (i1.mono (L := L)).row
  refine w66 ?_
  unfold k66
  simp -implicitDefEqProofs only [kz, kk0, kk1, kk2, kk3, ↓two_true, ↓two_false, oS_some, oM_some, mkv, aggAt, Nat.reduceLeDiff, Nat.reduceSub, Nat.reduceMul, implies_true, Nat.reduceEqDiff, reduceIte, Nat.reduceAdd, Nat.reduceBEq, reduceCtorEq, al63, bd63, ef63, eg63, fa66_0, fa66_1, fa66_2, fa66_3, ld3, ld63, ld64, ln64, st63, en, er, l1In_eq, specFunOne_eq, specFunTwo_eq]
  simp +contextual [two, insOk]

set_option maxHeartbeats 4000000 in
theorem takes_el {H : AH} {x : List Value} (hx : All2 H kInstr x) : CallsA Try.prog 88 #[.agg x.toArray] H fun r H' => r = .int .i64 (tk (insOf (x.map (cv H)))) ∧ ∃ K, H' = H ++ K := by
  obtain ⟨op, a, s, o, w, y, rfl, ky, e⟩ := all2_instr hx
  rw [e]
  obtain ⟨a', c', e1⟩ := ky.1.slice
  generalize rowI H y = m at *
  subst e1
  refine w88 ?_
  unfold k88
  simp -implicitDefEqProofs only [kz, kk0, kk1, kk2, kk3, ↓two_true, ↓two_false, oS_some, oM_some, mkv, aggAt, Nat.reduceLeDiff, Nat.reduceSub, Nat.reduceMul, implies_true, Nat.reduceEqDiff, reduceIte, Nat.reduceAdd, Nat.reduceBEq, reduceCtorEq, fa66_0, ld3]
  simp +contextual [two, tk]

set_option maxHeartbeats 4000000 in
theorem l11Takes_el {H : AH} {x : List Value} (hx : All2 H kInstr x) (ho : insOk (insOf (x.map (cv H))) = true) : CallsA Try.prog 90 #[.agg x.toArray] H fun r H' => r = .tuple #[.int .i64 (tk (insOf (x.map (cv H)))), .int .i64 (1 - tk (insOf (x.map (cv H))))] ∧ ∃ K, H' = H ++ K := by
  obtain ⟨op, a, s, o, w, y, rfl, ky, e⟩ := all2_instr hx
  rw [e] at ho ⊢
  obtain ⟨a', c', e1⟩ := ky.1.slice
  generalize rowI H y = m at *
  subst e1
  refine w90 ?_
  unfold k90
  simp -implicitDefEqProofs only [kz, kk0, kk1, kk2, kk3, ↓two_true, ↓two_false, oS_some, oM_some, mkv, aggAt, Nat.reduceLeDiff, Nat.reduceSub, Nat.reduceMul, implies_true, Nat.reduceEqDiff, reduceIte, Nat.reduceAdd, Nat.reduceBEq, reduceCtorEq, fa66_0, ld3]
  have hop : op = 1 ∨ op = 2 ∨ op = 3 ∨ op = 4 ∨ op = 5 := by
    simp only [insOk, Bool.or_eq_true, Bool.and_eq_true, beq_iff_eq] at ho
    omega
  rcases hop with rfl | rfl | rfl | rfl | rfl <;> simp [two, tk]
theorem dl_snoc {l : List Ins} {i : Nat} : (List.range (i + 1)).map (dAt l) ++ [dAt l (i + 1)] = (List.range (i + 1 + 1)).map (dAt l) := by
  rw [List.range_succ (n := i + 1), List.map_append]; rfl
theorem dl_get {l : List Ins} {i : Nat} : ((List.range (i + 1)).map (dAt l))[i]? = some (dAt l i) := by
  rw [List.getElem?_map, List.getElem?_range (by omega)]; rfl

set_option maxHeartbeats 4000000 in
theorem deep_ok {H : AH} {v : Value} {n : Nat} {xs : List Value} (hv : FRow H v kInstr n xs) (hl : n ≤ 1048576) :
    CallsA Try.prog 57 #[v] H fun r H' => (∃ w, r = .tuple #[w, .bool (dOk (insL (cvs H xs) n))] ∧ (dOk (insL (cvs H xs) n) = true → OwnRow H' w (dL (insL (cvs H xs) n)) ∧ ∀ b, blkOf w = some b → H.length ≤ b)) ∧ ∃ K, H' = H ++ K := by
  obtain ⟨a, c, rfl, gv⟩ := hv.opn 6 rfl
  generalize hL : insL (cvs H xs) n = l
  have hll : l.length = n := by rw [← hL, insL_len]
  refine w57 ?_
  unfold k57
  simp -implicitDefEqProofs only [kz, kk0, kk1, kk2, kk3, ↓two_true, ↓two_false, oS_some, oM_some, mkv, aggAt, Nat.reduceLeDiff, Nat.reduceSub, Nat.reduceMul, implies_true, Nat.reduceEqDiff, reduceIte, Nat.reduceAdd, Nat.reduceBEq, reduceCtorEq, al66, ap64_64, bs64_1, ix29, ix64, ld3, ld66, ln29, st66]
  refine rW_loop (σ := Nat × Option Addr × Nat) (fun (i, a', c') tm H' => tm 8 = .slice a n c ∧ tm 9 = .int .i64 n ∧ tm 10 = .int .i64 i ∧ tm 4 = .slice a' (i + 1) c' ∧ i ≤ n ∧ OwnRow H' (.slice a' (i + 1) c') ((List.range (i + 1)).map (dAt l)) ∧ (∀ b, blkOf (.slice a' (i + 1) c') = some b → H.length ≤ b) ∧ (∃ K, H' = H ++ K) ∧ ∀ (j : Nat) x, j < i → l[j]? = some x → tk x ≤ dAt l j) (fun s => n - s.1) (0, some ⟨H.length, 0, none⟩, 1) ?_ ?_
  · simp -implicitDefEqProofs [kk0, kk1, kk2, kk3, rW_block, ↓two_true, ↓two_false, rW_cond, rO_guard, oS_some, oM_some, mkv, aggAt, Nat.reduceLeDiff, Nat.reduceSub, Nat.reduceMul, cond_true, cond_false, Option.bind_some, List.length_append, List.length_cons, List.length_nil, List.append_assoc, List.cons_append, List.nil_append, List.set_cons_zero, List.set_cons_succ, List.size_toArray, List.all_cons, List.all_nil, List.drop_zero, List.drop_succ_cons, List.take_succ_cons, List.take_zero, List.mem_cons, Prod.mk.injEq, List.not_mem_nil, implies_true, List.getElem?_toArray, List.getElem?_cons_zero, List.getElem?_cons_succ, List.getElem?_nil, Option.getD_some, Option.getD_none, Nat.reduceEqDiff, reduceIte, Nat.reduceAdd, List.map_toArray, List.map_cons, List.map_nil, Bool.false_eq_true, Nat.reduceBEq, Option.map_some, Option.map_none, reduceCtorEq, al66, ap64_64, bs64_1, ix29, ix64, ld3, ld66, ln29, st66]
    refine ⟨?_, ?_⟩
    · exact .inr ⟨H.length, 0, [.int .i64 0], rfl, by rw [gt0]; rfl, by simp, by simp [ints, dAt]⟩
    · intro b hb; simp [blkOf] at hb; omega
  · rintro ⟨i, a', c'⟩ tm H1 ⟨h8, h9, h10, h4, hi, ho, hf, he, hd⟩
    simp -implicitDefEqProofs only [kz, kk0, kk1, kk2, kk3, ↓two_true, ↓two_false, oS_some, oM_some, mkv, aggAt, Nat.reduceLeDiff, Nat.reduceSub, Nat.reduceMul, implies_true, Nat.reduceEqDiff, reduceIte, Nat.reduceAdd, Nat.reduceBEq, reduceCtorEq, al66, ap64_64, bs64_1, ix29, ix64, ld3, ld66, ln29, st66, h8, h9, h10, h4]
    refine two_intro (fun hc' => ?_) (fun hc' => ?_)
    · have hlt : i < n := by simpa using hc'
      obtain ⟨b, o, cs, rfl, rfl, hrd, hle, hcell⟩ := gv (by omega)
      have x1 := hv.elemn 6 rfl hlt
      have hin : l[i]? = some (insOf ((elm 6 xs i).map (cv H))) := by rw [← hL]; exact insL_get hlt
      have hlen := ext_len he
      have x2 : All2 H1 kInstr (elm 6 xs i) ∧ (elm 6 xs i).map (cv H1) = (elm 6 xs i).map (cv H) := by
        obtain ⟨K, rfl⟩ := he
        exact ⟨x1.mono, x1.mapcv⟩
      have g1 : rd H1 b = some cs := by obtain ⟨K, rfl⟩ := he; rw [rdl (by simp [hrd]), hrd]
      have l1 : ld Try.prog 66 (o + i * 6) cs = some (.agg (elm 6 xs i).toArray) := by rw [ld66]; exact (hcell i hlt).1
      obtain ⟨b2, o2, cs2, e2, hb2, hle2, hcs2⟩ := ho.blk (by simp)
      simp only [Value.slice.injEq, List.length_map, List.length_range] at e2
      obtain ⟨rfl, _, rfl⟩ := e2
      have hcell2 : cs2[o2 + i]? = some (.int .i64 (dAt l i)) := hcs2 i _ dl_get
      obtain ⟨op, ia, is, io, iw, y, ex, ky, ei⟩ := all2_instr x2.1
      rw [← x2.2] at hin
      generalize elm 6 xs i = x at *
      generalize hvv : x.map (cv H1) = vv at *
      obtain ⟨a5, c5, e5⟩ := ky.1.slice
      generalize rowI H1 y = m at *
      subst e5
      subst ex
      have gb : ∀ L, rd (H1 ++ L) b2 = some cs2 := fun L => rd_own (gtl hb2)
      simp -implicitDefEqProofs only [kz, kk0, kk1, kk2, kk3, ↓two_true, ↓two_false, oS_some, oM_some, mkv, aggAt, Nat.reduceLeDiff, Nat.reduceSub, Nat.reduceMul, implies_true, Nat.reduceEqDiff, reduceIte, Nat.reduceAdd, Nat.reduceBEq, reduceCtorEq, al66, ap64_64, bs64_1, ix29, ix64, ld3, ld66, ln29, st66, h8, h9, h10, h4, Int.toNat_natCast, Nat.mul_one, g1, l1, gb, hcell2]
      have x3 : All2 (H1 ++ [⟨[.int .i64 op, .int .i64 ia, .int .i64 is, .int .i64 io, .int .i64 iw, .slice a5 m.length c5], .own⟩]) kInstr _ := x2.1.mono
      have x4 := hvv ▸ x2.1.mapcv (L := [⟨[.int .i64 op, .int .i64 ia, .int .i64 is, .int .i64 io, .int .i64 iw, .slice a5 m.length c5], .own⟩])
      have hb0 : (H1 ++ [⟨[.int .i64 op, .int .i64 ia, .int .i64 is, .int .i64 io, .int .i64 iw, .slice a5 m.length c5], .own⟩] : AH)[H1.length]? = some ⟨[.int .i64 op, .int .i64 ia, .int .i64 is, .int .i64 io, .int .i64 iw, .slice a5 m.length c5], .own⟩ := by rw [gt0]; rfl
      have hb3 := gtl (L := [⟨[.int .i64 op, .int .i64 ia, .int .i64 is, .int .i64 io, .int .i64 iw, .slice a5 m.length c5], .own⟩]) hb2
      have he2 := app_ext (L := [⟨[.int .i64 op, .int .i64 ia, .int .i64 is, .int .i64 io, .int .i64 iw, .slice a5 m.length c5], .own⟩]) he
      have ho2 := ho.mono (L := [⟨[.int .i64 op, .int .i64 ia, .int .i64 is, .int .i64 io, .int .i64 iw, .slice a5 m.length c5], .own⟩])
      have hlm : (H1 ++ [⟨[.int .i64 op, .int .i64 ia, .int .i64 is, .int .i64 io, .int .i64 iw, .slice a5 m.length c5], .own⟩] : AH).length = H1.length + 1 := by simp
      generalize (H1 ++ [⟨[.int .i64 op, .int .i64 ia, .int .i64 is, .int .i64 io, .int .i64 iw, .slice a5 m.length c5], .own⟩] : AH) = H2 at *
      have r0 := rd_own hb0
      have r3 := rd_own hb3
      refine ⟨⟨by omega, by omega⟩, ⟨by omega, by omega⟩, (takes_el x3).mono ?_⟩
      rintro _ H3 ⟨rfl, K3, rfl⟩
      rw [x4]
      have r4 : rd (H2 ++ K3) H1.length = _ := rd_own (gtl hb0)
      have r5 : rd (H2 ++ K3) b2 = _ := rd_own (gtl hb3)
      have ho3 := ho2.mono (L := K3)
      have he3 := app_ext (L := K3) he2
      have x5 := x3.mono (L := K3)
      have x6 : _ = _ := x3.mapcv (L := K3)
      rw [x4] at x6
      have hb4 := gtl (L := K3) hb0
      have hb5 := gtl (L := K3) hb3
      have hlm3 : H2.length ≤ (H2 ++ K3).length := by simp
      generalize (H2 ++ K3) = H3 at *
      simp -implicitDefEqProofs only [kz, kk0, kk1, kk2, kk3, ↓two_true, ↓two_false, oS_some, oM_some, mkv, aggAt, Nat.reduceLeDiff, Nat.reduceSub, Nat.reduceMul, implies_true, Nat.reduceEqDiff, reduceIte, Nat.reduceAdd, Nat.reduceBEq, reduceCtorEq, al66, ap64_64, bs64_1, ix29, ix64, ld3, ld66, ln29, st66, h8, h9, h10, h4, Int.toNat_natCast, Nat.mul_one, r0, r3, r4, r5, hcell2]
      refine two_intro (fun h => ?_) (fun h => ?_)
      · have hlt2 : dAt l i < tk (insOf vv) := by simpa using h
        rw [dOk_false hin hlt2]
        exact ⟨⟨_, rfl, fun h => by cases h⟩, he3⟩
      · have hle3 : tk (insOf vv) ≤ dAt l i := by simp at h; omega
        have hsucc := dAt_succ hin
        have ht := tk_le (x := insOf vv)
        generalize htt : tk (insOf vv) = t at *
        refine ⟨⟨by omega, by omega⟩, (takes_el x5).mono ?_⟩
        rintro _ H4 ⟨rfl, hK4⟩
        rw [x6, htt]
        have ho4 := ho3.ext hK4
        have he4 := ext_trans he3 hK4
        have r6 := rd_ext r4 hK4
        have r7 := rd_ext r5 hK4
        have hd1 := dAt_le (l := l) (i := i)
        have w1 : IntKind.i64.wrap (dAt l i - t) = dAt l i - t := IntWalk.i64_in _ (by omega)
        have w2 : IntKind.i64.wrap (dAt l i - t + 1) = dAt l i - t + 1 := IntWalk.i64_in _ (by omega)
        simp -implicitDefEqProofs only [kz, kk0, kk1, kk2, kk3, ↓two_true, ↓two_false, oS_some, oM_some, mkv, aggAt, Nat.reduceLeDiff, Nat.reduceSub, Nat.reduceMul, implies_true, Nat.reduceEqDiff, reduceIte, Nat.reduceAdd, Nat.reduceBEq, reduceCtorEq, al66, ap64_64, bs64_1, ix29, ix64, ld3, ld66, ln29, st66, h8, h9, h10, h4, Int.toNat_natCast, Nat.mul_one, r4, r5, r6, r7, hcell2, w1, w2]
        refine oA_own ho4.mono intRow1 (by simp; omega) fun a6 c6 H5 o6 x7 => ?_
        have hff : ∀ b, blkOf (.slice a6 (((List.range (i + 1)).map (dAt l)).length + [dAt l i - t + 1].length) c6) = some b → H.length ≤ b := fun b hb => by
          rcases x7.new b hb with h | h
          · exact hf b h
          · have := ext_len he4; simp at h; omega
        have he5 := x7.ext (app_ext he4) hf
        simp -implicitDefEqProofs only [kz, kk0, kk1, kk2, kk3, ↓two_true, ↓two_false, oS_some, oM_some, mkv, aggAt, Nat.reduceLeDiff, Nat.reduceSub, Nat.reduceMul, implies_true, Nat.reduceEqDiff, reduceIte, Nat.reduceAdd, Nat.reduceBEq, reduceCtorEq, al66, ap64_64, bs64_1, ix29, ix64, ld3, ld66, ln29, st66, h8, h9, h10, h4, List.length_map, List.length_range, IntWalk.i64_in (↑i + 1) (by omega)]
        rw [show dAt l i - t + 1 = dAt l (i + 1) by omega, dl_snoc] at o6
        simp only [List.length_map, List.length_range, List.length_cons, List.length_nil, Nat.zero_add] at o6 hff
        exact ⟨(i + 1, a6, c6), by simp only; omega, by simp, rfl, hlt, o6, hff, he5, fun j x hj hx => by
          rcases Nat.lt_or_ge j i with h1 | h1
          · exact hd j x h1 hx
          · have : j = i := by omega
            subst this
            rw [hin] at hx; cases hx; omega⟩
    · have hil : i = n := by have : ¬ i < n := by simpa using hc'
                             omega
      subst hil
      have hdk : dOk l = true := dOk_true fun j x hx => hd j x (by have := (List.getElem?_eq_some_iff.1 hx).1; omega) hx
      rw [hdk]
      refine ⟨⟨_, rfl, fun _ => ⟨?_, hf⟩⟩, he⟩
      unfold dL
      rw [hll]; exact ho

set_option maxHeartbeats 4000000 in
theorem l11Depths_ok {H : AH} {v : Value} {n : Nat} {xs : List Value} (hv : FRow H v kInstr n xs) (hl : n ≤ 1048576) (hok : (insL (cvs H xs) n).all insOk = true) :
    CallsA Try.prog 63 #[v] H fun r H' => (∃ w, r = .tuple #[w, .bool (dOk (insL (cvs H xs) n))] ∧ (dOk (insL (cvs H xs) n) = true → OwnRow H' w (dL (insL (cvs H xs) n)) ∧ ∀ b, blkOf w = some b → H.length ≤ b)) ∧ ∃ K, H' = H ++ K := by
  obtain ⟨a, c, rfl, gv⟩ := hv.opn 6 rfl
  generalize hL : insL (cvs H xs) n = l at *
  have hll : l.length = n := by rw [← hL, insL_len]
  refine w63 ?_
  unfold k63
  simp -implicitDefEqProofs only [kz, kk0, kk1, kk2, kk3, ↓two_true, ↓two_false, oS_some, oM_some, mkv, aggAt, Nat.reduceLeDiff, Nat.reduceSub, Nat.reduceMul, implies_true, Nat.reduceEqDiff, reduceIte, Nat.reduceAdd, Nat.reduceBEq, reduceCtorEq, ap64_64, bs64_1, ix29, ld66, ln29]
  refine rW_loop (σ := Nat × Option Addr × Nat) (fun (i, a', c') tm H' => tm 0 = .slice a n c ∧ tm 6 = .int .i64 i ∧ tm 5 = .int .i64 (dAt l i) ∧ tm 4 = .slice a' (i + 1) c' ∧ i ≤ n ∧ OwnRow H' (.slice a' (i + 1) c') ((List.range (i + 1)).map (dAt l)) ∧ (∀ b, blkOf (.slice a' (i + 1) c') = some b → H.length ≤ b) ∧ (∃ K, H' = H ++ K) ∧ ∀ (j : Nat) x, j < i → l[j]? = some x → tk x ≤ dAt l j) (fun s => n - s.1) (0, some ⟨H.length, 0, none⟩, 1) ?_ ?_
  · simp -implicitDefEqProofs [kk0, kk1, kk2, kk3, rW_block, ↓two_true, ↓two_false, rW_cond, rO_guard, oS_some, oM_some, mkv, aggAt, Nat.reduceLeDiff, Nat.reduceSub, Nat.reduceMul, cond_true, cond_false, Option.bind_some, List.length_append, List.length_cons, List.length_nil, List.append_assoc, List.cons_append, List.nil_append, List.set_cons_zero, List.set_cons_succ, List.size_toArray, List.all_cons, List.all_nil, List.drop_zero, List.drop_succ_cons, List.take_succ_cons, List.take_zero, List.mem_cons, Prod.mk.injEq, List.not_mem_nil, implies_true, List.getElem?_toArray, List.getElem?_cons_zero, List.getElem?_cons_succ, List.getElem?_nil, Option.getD_some, Option.getD_none, Nat.reduceEqDiff, reduceIte, Nat.reduceAdd, List.map_toArray, List.map_cons, List.map_nil, Bool.false_eq_true, Nat.reduceBEq, Option.map_some, Option.map_none, reduceCtorEq, ap64_64, bs64_1, ix29, ld66, ln29, show dAt l 0 = 0 from rfl]
    refine ⟨?_, ?_⟩
    · exact .inr ⟨H.length, 0, [.int .i64 0], rfl, by rw [gt0]; rfl, by simp, by simp [ints]⟩
    · intro b hb; simp [blkOf] at hb; omega
  · rintro ⟨i, a', c'⟩ tm H1 ⟨h0, h6, h5, h4, hi, ho, hf, he, hd⟩
    simp -implicitDefEqProofs only [kz, kk0, kk1, kk2, kk3, ↓two_true, ↓two_false, oS_some, oM_some, mkv, aggAt, Nat.reduceLeDiff, Nat.reduceSub, Nat.reduceMul, implies_true, Nat.reduceEqDiff, reduceIte, Nat.reduceAdd, Nat.reduceBEq, reduceCtorEq, ap64_64, bs64_1, ix29, ld66, ln29, h0, h6, h5, h4]
    refine two_intro (fun hc' => ?_) (fun hc' => ?_)
    · have hlt : i < n := by simpa using hc'
      obtain ⟨b, o, cs, rfl, rfl, hrd, hle, hcell⟩ := gv (by omega)
      have x1 := hv.elemn 6 rfl hlt
      have hin : l[i]? = some (insOf ((elm 6 xs i).map (cv H))) := by rw [← hL]; exact insL_get hlt
      have hio : insOk (insOf ((elm 6 xs i).map (cv H))) = true := (List.all_eq_true.1 hok) _ (List.mem_of_getElem? hin)
      obtain ⟨x2, x3⟩ := x1.ext he
      have g1 := rd_ext hrd he
      have l1 : ld Try.prog 66 (o + i * 6) cs = some (.agg (elm 6 xs i).toArray) := by rw [ld66]; exact (hcell i hlt).1
      simp -implicitDefEqProofs only [kz, kk0, kk1, kk2, kk3, ↓two_true, ↓two_false, oS_some, oM_some, mkv, aggAt, Nat.reduceLeDiff, Nat.reduceSub, Nat.reduceMul, implies_true, Nat.reduceEqDiff, reduceIte, Nat.reduceAdd, Nat.reduceBEq, reduceCtorEq, ap64_64, bs64_1, ix29, ld66, ln29, h0, h6, h5, h4, Int.toNat_natCast, Nat.mul_one, g1, l1]
      refine ⟨⟨by omega, by omega⟩, (l11Takes_el x2 (by rw [x3]; exact hio)).mono ?_⟩
      rintro _ H2 ⟨rfl, hK2⟩
      rw [x3]
      have he2 := ext_trans he hK2
      have ho2 := ho.ext hK2
      have hsucc := dAt_succ hin
      have ht := tk_le (x := insOf ((elm 6 xs i).map (cv H)))
      have hd1 := dAt_le (l := l) (i := i)
      generalize hvv : insOf ((elm 6 xs i).map (cv H)) = vv at *
      have w2 : IntKind.i64.wrap (dAt l i + (1 - tk vv)) = dAt l (i + 1) := by rw [IntWalk.i64_in _ (by omega)]; omega
      simp -implicitDefEqProofs only [kz, kk0, kk1, kk2, kk3, ↓two_true, ↓two_false, oS_some, oM_some, mkv, aggAt, Nat.reduceLeDiff, Nat.reduceSub, Nat.reduceMul, implies_true, Nat.reduceEqDiff, reduceIte, Nat.reduceAdd, Nat.reduceBEq, reduceCtorEq, ap64_64, bs64_1, ix29, ld66, ln29, h0, h6, h5, h4, w2]
      refine two_intro (fun h => ?_) (fun h => ?_)
      · have hlt2 : dAt l i < tk vv := by simpa using h
        rw [dOk_false hin hlt2]
        exact ⟨⟨_, rfl, fun h => by cases h⟩, he2⟩
      · have hle3 : tk vv ≤ dAt l i := by simp at h; omega
        refine oA_own ho2.mono intRow1 (by simp; omega) fun a6 c6 H5 o6 x7 => ?_
        have hff : ∀ b, blkOf (.slice a6 (((List.range (i + 1)).map (dAt l)).length + [dAt l (i + 1)].length) c6) = some b → H.length ≤ b := fun b hb => by
          rcases x7.new b hb with h | h
          · exact hf b h
          · have := ext_len he2; simp at h; omega
        have he5 := x7.ext (app_ext he2) hf
        simp -implicitDefEqProofs only [kz, kk0, kk1, kk2, kk3, ↓two_true, ↓two_false, oS_some, oM_some, mkv, aggAt, Nat.reduceLeDiff, Nat.reduceSub, Nat.reduceMul, implies_true, Nat.reduceEqDiff, reduceIte, Nat.reduceAdd, Nat.reduceBEq, reduceCtorEq, ap64_64, bs64_1, ix29, ld66, ln29, h0, h6, h5, h4, List.length_map, List.length_range, IntWalk.i64_in (↑i + 1) (by omega)]
        rw [dl_snoc] at o6
        simp only [List.length_map, List.length_range, List.length_cons, List.length_nil, Nat.zero_add] at o6 hff
        exact ⟨(i + 1, a6, c6), by simp only; omega, by simp, rfl, rfl, hlt, o6, hff, he5, fun j x hj hx => by
          rcases Nat.lt_or_ge j i with h1 | h1
          · exact hd j x h1 hx
          · have : j = i := by omega
            subst this
            rw [hin] at hx; cases hx; omega⟩
    · have hil : i = n := by have : ¬ i < n := by simpa using hc'
                             omega
      subst hil
      have hdk : dOk l = true := dOk_true fun j x hx => hd j x (by have := (List.getElem?_eq_some_iff.1 hx).1; omega) hx
      rw [hdk]
      refine ⟨⟨_, rfl, fun _ => ⟨?_, hf⟩⟩, he⟩
      unfold dL
      rw [hll]; exact ho

set_option maxHeartbeats 4000000 in
theorem codeOk1_el {H : AH} {x : List Value} (hx : All2 H kInstr x) : CallsA Try.prog 60 #[.agg x.toArray] H fun r H' => r = .bool (!insOk (insOf (x.map (cv H)))) ∧ ∃ K, H' = H ++ K := by
  have hl : x.length = 6 := hx.len
  have et : x.take 6 = x := List.take_of_length_le (by omega)
  have e := fun (L : AH) Φ => (implInstrOk_el (hx.mono (L := L))).eqV (Φ := Φ)
  simp only [hx.mapcv] at e
  refine w60 ?_
  unfold k60
  simp -implicitDefEqProofs only [kz, kk0, kk1, kk2, kk3, ↓two_true, ↓two_false, oS_some, oM_some, mkv, aggAt, Nat.reduceLeDiff, Nat.reduceSub, Nat.reduceMul, implies_true, Nat.reduceEqDiff, reduceIte, Nat.reduceAdd, Nat.reduceBEq, reduceCtorEq, ld66, et, e]
  exact ⟨by omega, _, rfl⟩
theorem any_ins {V : List CV} {n : Nat} : ((chunk 6 V n).any fun V => !insOk (insOf V)) = !(insL V n).all insOk := by
  unfold insL
  rw [List.all_map, List.not_all_eq_any_not]
  rfl

set_option maxHeartbeats 4000000 in
theorem implCodeOk_ok {H : AH} {v : Value} {n : Nat} {xs : List Value} (hv : FRow H v kInstr n xs) (hl : n ≤ 1048576) :
    CallsA Try.prog 26 #[v] H fun r H' => r = .bool (cdOk (insL (cvs H xs) n)) ∧ ∃ K, H' = H ++ K := by
  have ec := fun Φ => (containsFuncInstr_ok (g := 60) (p := fun V => !insOk (insOf V)) hv (by omega) (fun L x hx => codeOk1_el hx)).eqV (Φ := Φ)
  rw [any_ins] at ec
  obtain ⟨a, c, rfl, gv⟩ := hv.opn 6 rfl
  have hll : (insL (cvs H xs) n).length = n := insL_len
  have hcd : cdOk (insL (cvs H xs) n) = (inB n 1 60 && ((insL (cvs H xs) n).all insOk && (dOk (insL (cvs H xs) n) && dAt (insL (cvs H xs) n) n == 1))) := by
    unfold cdOk; rw [hll]
  rw [hcd]
  refine w26 ?_
  unfold k26
  simp -implicitDefEqProofs only [kz, kk0, kk1, kk2, kk3, ↓two_true, ↓two_false, oS_some, oM_some, mkv, aggAt, Nat.reduceLeDiff, Nat.reduceSub, Nat.reduceMul, implies_true, Nat.reduceEqDiff, reduceIte, Nat.reduceAdd, Nat.reduceBEq, reduceCtorEq, ix64, ld3, ln29, within_eq, ec]
  generalize hJ : jk Try.prog 59 #[.slice a n c, .func (.func 60) #[] #[]] H = J
  refine two_intro (fun h1 => ?_) (fun h1 => ?_)
  · rw [show inB n 1 60 = false by simpa using h1]
    exact ⟨rfl, [], by simp⟩
  · rw [show inB n 1 60 = true by simpa using h1]
    refine two_intro (fun h2 => ?_) (fun h2 => ?_)
    · have h3 : (insL (cvs H xs) n).all insOk = false := by simpa using h2
      rw [h3]
      exact ⟨rfl, _, rfl⟩
    · have h3 : (insL (cvs H xs) n).all insOk = true := by simpa using h2
      rw [h3]
      have hd := deep_ok (hv.mono (L := J)) hl
      rw [hv.vals] at hd
      refine hd.mono ?_
      rintro _ H2 ⟨⟨w, rfl, hw⟩, hK⟩
      simp -implicitDefEqProofs only [kz, kk0, kk1, kk2, kk3, ↓two_true, ↓two_false, oS_some, oM_some, mkv, aggAt, Nat.reduceLeDiff, Nat.reduceSub, Nat.reduceMul, implies_true, Nat.reduceEqDiff, reduceIte, Nat.reduceAdd, Nat.reduceBEq, reduceCtorEq, ix64, ld3, ln29]
      refine two_intro (fun h4 => ?_) (fun h4 => ?_)
      · rw [h4]
        obtain ⟨ow, _⟩ := hw h4
        obtain ⟨b2, o2, cs2, rfl, hb2, hle2, hcs2⟩ := ow.blk (by simp [dL])
        have hdl : (dL (insL (cvs H xs) n)).length = n + 1 := by simp [dL, hll]
        have hg := hcs2 n _ (dL_get (by omega))
        rw [hdl]
        simp -implicitDefEqProofs only [kz, kk0, kk1, kk2, kk3, ↓two_true, ↓two_false, oS_some, oM_some, mkv, aggAt, Nat.reduceLeDiff, Nat.reduceSub, Nat.reduceMul, implies_true, Nat.reduceEqDiff, reduceIte, Nat.reduceAdd, Nat.reduceBEq, reduceCtorEq, ix64, ld3, ln29, Int.toNat_natCast, Nat.mul_one, rd_own hb2, hg]
        exact ⟨⟨by omega, by omega⟩, by simp, ext_trans ⟨_, rfl⟩ hK⟩
      · rw [h4]
        exact ⟨rfl, ext_trans ⟨_, rfl⟩ hK⟩

set_option maxHeartbeats 4000000 in
theorem specCodeOk_ok {H : AH} {v : Value} {n : Nat} {xs : List Value} (hv : FRow H v kInstr n xs) (hl : n ≤ 1048576) :
    CallsA Try.prog 30 #[v] H fun r H' => r = .bool (cdOk (insL (cvs H xs) n)) ∧ ∃ K, H' = H ++ K := by
  obtain ⟨a, c, rfl, gv⟩ := hv.opn 6 rfl
  have hll : (insL (cvs H xs) n).length = n := insL_len
  have hcd : cdOk (insL (cvs H xs) n) = (inB n 1 60 && ((insL (cvs H xs) n).all insOk && (dOk (insL (cvs H xs) n) && dAt (insL (cvs H xs) n) n == 1))) := by
    unfold cdOk; rw [hll]
  rw [hcd]
  refine w30 ?_
  unfold k30
  simp -implicitDefEqProofs only [kz, kk0, kk1, kk2, kk3, ↓two_true, ↓two_false, oS_some, oM_some, mkv, aggAt, Nat.reduceLeDiff, Nat.reduceSub, Nat.reduceMul, implies_true, Nat.reduceEqDiff, reduceIte, Nat.reduceAdd, Nat.reduceBEq, reduceCtorEq, ix29, ix64, ld3, ld66, ln29, l1In_eq]
  refine two_intro (fun h1 => ?_) (fun h1 => ?_)
  · rw [show inB n 1 60 = false by simpa using h1]
    exact ⟨rfl, [], by simp⟩
  · rw [show inB n 1 60 = true by simpa using h1]
    refine rW_loop (σ := Nat) (fun i tm H' => tm 0 = .slice a n c ∧ tm 3 = .int .i64 i ∧ i ≤ n ∧ (∃ K, H' = H ++ K) ∧ ∀ x ∈ (insL (cvs H xs) n).take i, insOk x = true) (fun i => n - i) 0 ?_ ?_
    · simp -implicitDefEqProofs [kk0, kk1, kk2, kk3, rW_block, ↓two_true, ↓two_false, rW_cond, rO_guard, oS_some, oM_some, mkv, aggAt, Nat.reduceLeDiff, Nat.reduceSub, Nat.reduceMul, cond_true, cond_false, Option.bind_some, List.length_append, List.length_cons, List.length_nil, List.append_assoc, List.cons_append, List.nil_append, List.set_cons_zero, List.set_cons_succ, List.size_toArray, List.all_cons, List.all_nil, List.drop_zero, List.drop_succ_cons, List.take_succ_cons, List.take_zero, List.mem_cons, Prod.mk.injEq, List.not_mem_nil, implies_true, List.getElem?_toArray, List.getElem?_cons_zero, List.getElem?_cons_succ, List.getElem?_nil, Option.getD_some, Option.getD_none, Nat.reduceEqDiff, reduceIte, Nat.reduceAdd, List.map_toArray, List.map_cons, List.map_nil, Bool.false_eq_true, Nat.reduceBEq, Option.map_some, Option.map_none, reduceCtorEq, ix29, ix64, ld3, ld66, ln29]
    · rintro i tm H1 ⟨h0, h3, hi, he, hn⟩
      simp -implicitDefEqProofs only [kz, kk0, kk1, kk2, kk3, ↓two_true, ↓two_false, oS_some, oM_some, mkv, aggAt, Nat.reduceLeDiff, Nat.reduceSub, Nat.reduceMul, implies_true, Nat.reduceEqDiff, reduceIte, Nat.reduceAdd, Nat.reduceBEq, reduceCtorEq, ix29, ix64, ld3, ld66, ln29, h0, h3]
      refine two_intro (fun hc => ?_) (fun hc => ?_)
      · have hlt : i < n := by simpa using hc
        obtain ⟨b, o, cs, rfl, rfl, hrd, hle, hcell⟩ := gv (by omega)
        have x1 := hv.elemn 6 rfl hlt
        obtain ⟨x2, x3⟩ := x1.ext he
        have hin := insL_get (H := H) (xs := xs) hlt
        have hli : i < (insL (cvs H xs) n).length := by omega
        have hin' : (insL (cvs H xs) n)[i] = insOf ((elm 6 xs i).map (cv H)) := by rw [List.getElem?_eq_getElem hli] at hin; exact Option.some.inj hin
        have g1 := rd_ext hrd he
        have l1 : ld Try.prog 66 (o + i * 6) cs = some (.agg (elm 6 xs i).toArray) := by rw [ld66]; exact (hcell i hlt).1
        have ei := fun Φ => (l11Instr_el x2).eqV (Φ := Φ)
        rw [x3] at ei
        simp -implicitDefEqProofs only [kz, kk0, kk1, kk2, kk3, ↓two_true, ↓two_false, oS_some, oM_some, mkv, aggAt, Nat.reduceLeDiff, Nat.reduceSub, Nat.reduceMul, implies_true, Nat.reduceEqDiff, reduceIte, Nat.reduceAdd, Nat.reduceBEq, reduceCtorEq, ix29, ix64, ld3, ld66, ln29, h0, h3, Int.toNat_natCast, g1, l1, ei, IntWalk.i64_in (↑i + 1) (by omega)]
        refine ⟨⟨by omega, by omega⟩, two_intro (fun h => ?_) (fun h => ?_)⟩
        · have hb : insOk (insOf ((elm 6 xs i).map (cv H))) = false := by simpa using h
          have : (insL (cvs H xs) n).all insOk = false := by
            rw [Bool.eq_false_iff]
            intro ha
            rw [(List.all_eq_true.1 ha) _ (List.mem_of_getElem? hin)] at hb
            cases hb
          rw [this]
          exact ⟨rfl, app_ext he⟩
        · refine ⟨i + 1, by omega, by simp, hlt, app_ext he, fun x hx => ?_⟩
          rw [List.take_succ_eq_append_getElem hli, hin'] at hx
          rcases List.mem_append.1 hx with hx | hx
          · exact hn x hx
          · rw [List.mem_singleton.1 hx]; simpa using h
      · have hil : i = n := by have : ¬ i < n := by simpa using hc
                               omega
        subst hil
        rw [List.take_of_length_le (by omega)] at hn
        have hall : (insL (cvs H xs) i).all insOk = true := List.all_eq_true.2 hn
        have hv1 : FRow H1 (.slice a i c) kInstr i xs ∧ cvs H1 xs = cvs H xs := by obtain ⟨K, rfl⟩ := he; exact ⟨hv.mono, hv.vals⟩
        have hd := l11Depths_ok hv1.1 hl (by rw [hv1.2]; exact hall)
        rw [hv1.2] at hd
        rw [hall]
        refine hd.mono ?_
        rintro _ H2 ⟨⟨w, rfl, hw⟩, hK⟩
        have he2 := ext_trans he hK
        simp -implicitDefEqProofs only [kz, kk0, kk1, kk2, kk3, ↓two_true, ↓two_false, oS_some, oM_some, mkv, aggAt, Nat.reduceLeDiff, Nat.reduceSub, Nat.reduceMul, implies_true, Nat.reduceEqDiff, reduceIte, Nat.reduceAdd, Nat.reduceBEq, reduceCtorEq, ix29, ix64, ld3, ld66, ln29, h0]
        refine two_intro (fun h4 => ?_) (fun h4 => ?_)
        · rw [h4]
          obtain ⟨ow, _⟩ := hw h4
          obtain ⟨b2, o2, cs2, rfl, hb2, hle2, hcs2⟩ := ow.blk (by simp [dL])
          have hdl : (dL (insL (cvs H xs) i)).length = i + 1 := by simp [dL, hll]
          have hg := hcs2 i _ (dL_get (by omega))
          rw [hdl]
          simp -implicitDefEqProofs only [kz, kk0, kk1, kk2, kk3, ↓two_true, ↓two_false, oS_some, oM_some, mkv, aggAt, Nat.reduceLeDiff, Nat.reduceSub, Nat.reduceMul, implies_true, Nat.reduceEqDiff, reduceIte, Nat.reduceAdd, Nat.reduceBEq, reduceCtorEq, ix29, ix64, ld3, ld66, ln29, h0, Int.toNat_natCast, Nat.mul_one, rd_own hb2, hg]
          exact ⟨⟨by omega, by omega⟩, by simp, he2⟩
        · rw [h4]
          exact ⟨rfl, he2⟩
structure Nd where
  k : Int
  a : Int
  b : Int
  s : Int
  o : Int
  w : Int
  nums : List Int
def ndOf : List CV → Nd
  | [.i k, .i a, .i b, .i s, .i o, .i w, .r l] => ⟨k, a, b, s, o, w, l⟩
  | _ => ⟨0, 0, 0, 0, 0, 0, []⟩
def ndOk (x : Nd) : Bool :=
  (x.k == 1 && (x.a == 0 && (x.b == 0 && ((x.s == 0 && (x.o == 0 && x.w == 0)) && numsOk x.nums)))) ||
  (x.k == 2 && (inB x.a 0 25 && (x.b == 0 && ((x.s == 0 && (x.o == 0 && x.w == 0)) && (x.nums.length : Int) == 0)))) ||
  (x.k == 3 && (inB x.a 0 25 && ((x.s == 0 && (x.o == 0 && x.w == 0)) && (x.nums.length : Int) == 0))) ||
  (x.k == 4 && (x.a == 0 && (funOne x.s x.o x.w && (x.nums.length : Int) == 0))) ||
  (x.k == 5 && (funTwo x.s x.o x.w && (x.nums.length : Int) == 0))
def gI (l : List Int) (i : Int) : Int := l.getD i.toNat 0
/-- How many own nodes a node has behind those that are told. -/
def nxt (own : List Int) (x : Nd) : Option Int :=
  if x.k < 3 then some 1 else
  if (x.k = 5 ∧ x.a ≠ (own.length : Int) - 1) ∨ (x.k ≠ 5 ∧ x.b ≠ (own.length : Int) - 1) ∨ own.length = 0 then none else
  if x.k ≠ 5 then some (1 + gI own ((own.length : Int) - 1)) else
  if (own.length : Int) - 1 - gI own ((own.length : Int) - 1) < 0 ∨ x.b ≠ (own.length : Int) - 1 - gI own ((own.length : Int) - 1) then none else
  some (1 + gI own ((own.length : Int) - 1) + gI own ((own.length : Int) - 1 - gI own ((own.length : Int) - 1)))
def ownG : List Int → List Nd → Option (List Int)
  | acc, [] => some acc
  | acc, x :: t => match nxt acc x with
    | none => none
    | some k => ownG (acc ++ [k]) t
def trOk (l : List Nd) : Bool := inB l.length 1 60 && (l.all ndOk && (match ownG [] l with | some w => gI w ((l.length : Int) - 1) == l.length | none => false))
def ndL (V : List CV) (n : Nat) : List Nd := (chunk 7 V n).map ndOf
theorem ndL_len {V : List CV} {n : Nat} : (ndL V n).length = n := by simp [ndL, chunk_len]
theorem ndL_get {H : AH} {xs : List Value} {n i : Nat} (h : i < n) : (ndL (cvs H xs) n)[i]? = some (ndOf ((elm 7 xs i).map (cv H))) := by
  simp only [ndL, List.getElem?_map, chunk_get h, Option.map_some]
/-- Each node has between one and so many as stand up to it. -/
def OwB (own : List Int) : Prop := ∀ (j : Nat) x, own[j]? = some x → 1 ≤ x ∧ x ≤ j + 1
theorem OwB.nil : OwB [] := fun j x h => by simp at h
theorem gI_get {l : List Int} {i : Nat} (h : i < l.length) : l[i]? = some (gI l i) := by
  simp [gI, List.getD_eq_getElem?_getD, List.getElem?_eq_getElem h]
theorem OwB.g {own : List Int} (h : OwB own) {i : Nat} (hi : i < own.length) : 1 ≤ gI own i ∧ gI own i ≤ i + 1 := h i _ (gI_get hi)
theorem OwB.snoc {own : List Int} (h : OwB own) {k : Int} (h1 : 1 ≤ k) (h2 : k ≤ own.length + 1) : OwB (own ++ [k]) := by
  intro j x hx
  rcases Nat.lt_trichotomy j own.length with hj | hj | hj
  · rw [List.getElem?_append_left hj] at hx; exact h j x hx
  · subst hj
    simp at hx; subst hx; exact ⟨h1, h2⟩
  · rw [List.getElem?_eq_none (by simp; omega)] at hx; cases hx
theorem OwB.nxt {own : List Int} (h : OwB own) {x : Nd} {k : Int} (hk : nxt own x = some k) : OwB (own ++ [k]) := by
  unfold Go.Proofs.Ytdagncfnkenbfaa.AM.nxt at hk
  split at hk
  · cases hk; exact h.snoc (by omega) (by omega)
  · split at hk
    · cases hk
    · rename_i h0
      have hl : 0 < own.length := by omega
      have e1 : (own.length : Int) - 1 = ((own.length - 1 : Nat) : Int) := by omega
      have g1 := h.g (i := own.length - 1) (by omega)
      rw [e1] at hk
      split at hk
      · cases hk; exact h.snoc (by omega) (by omega)
      · split at hk
        · cases hk
        · rename_i h2
          have e2 : ((own.length - 1 : Nat) : Int) - gI own ((own.length - 1 : Nat) : Int) = ((((own.length - 1 : Nat) : Int) - gI own ((own.length - 1 : Nat) : Int)).toNat : Int) := by omega
          have g2 := h.g (i := (((own.length - 1 : Nat) : Int) - gI own ((own.length - 1 : Nat) : Int)).toNat) (by omega)
          rw [← e2] at g2
          cases hk; exact h.snoc (by omega) (by omega)
theorem all2_expr {H : AH} {x : List Value} (h : All2 H kExpr x) : ∃ k a b s o w y, x = [.int .i64 k, .int .i64 a, .int .i64 b, .int .i64 s, .int .i64 o, .int .i64 w, y] ∧ KOk H .r y ∧ ndOf (x.map (cv H)) = ⟨k, a, b, s, o, w, rowI H y⟩ := by
  obtain ⟨y0, _, rfl, ⟨a0, rfl⟩, y1, _, rfl, ⟨a1, rfl⟩, y2, _, rfl, ⟨a2, rfl⟩, y3, _, rfl, ⟨a3, rfl⟩, y4, _, rfl, ⟨a4, rfl⟩, y6, _, rfl, ⟨a5, rfl⟩, y5, _, rfl, k5, rfl⟩ := h
  refine ⟨a0, a1, a2, a3, a4, a5, y5, rfl, k5, ?_⟩
  simp only [List.map_cons, List.map_nil, cv_row k5.1, cv_int, ndOf]

theorem nodeEnd {H L : AH} {k : Int} {ok : Bool} {x : Nd} {acc : List Int} (h1 : ok = true → ndOk x = true ∧ nxt acc x = some k) (h2 : ok = false → ndOk x = false ∨ nxt acc x = none) :
    (∃ k' ok', Value.tuple #[.int .i64 k, .bool ok] = .tuple #[.int .i64 k', .bool ok'] ∧ (ok' = true → ndOk x = true ∧ nxt acc x = some k') ∧ (ok' = false → ndOk x = false ∨ nxt acc x = none)) ∧ ∃ K, H ++ L = H ++ K := ⟨⟨k, ok, rfl, h1, h2⟩, L, rfl⟩

set_option maxHeartbeats 4000000 in
theorem l9Node_el {H : AH} {x : List Value} {own : Value} {acc : List Int} (hx : All2 H kExpr x) (ho : IntRow H own acc) (hb : OwB acc) (hl : acc.length ≤ 60) :
    CallsA Try.prog 50 #[.agg x.toArray, .int .i64 acc.length, own] H fun r H' => (∃ k ok, r = .tuple #[.int .i64 k, .bool ok] ∧ (ok = true → ndOk (ndOf (x.map (cv H))) = true ∧ nxt acc (ndOf (x.map (cv H))) = some k) ∧ (ok = false → ndOk (ndOf (x.map (cv H))) = false ∨ nxt acc (ndOf (x.map (cv H))) = none)) ∧ ∃ K, H' = H ++ K := by
  obtain ⟨k, a, b, s, o, w, y, rfl, ky, e⟩ := all2_expr hx
  rw [e]
  obtain ⟨a', c', e1⟩ := ky.1.slice
  have i1 : IntRow H y (rowI H y) := ky.1
  have w1 := ky.2
  generalize rowI H y = m at *
  subst e1
  have en := fun (L : AH) Φ => l9Nums_eq (H := H ++ L) (Φ := Φ) i1.mono.ok (by rw [i1.mono.row]; omega)
  have er := fun (L : AH) => (i1.mono (L := L)).row
  obtain ⟨ao, co, rfl, go⟩ := ho.op
  refine w50 ?_
  unfold k50
  have hx0 : OwB acc := hb
  by_cases hk1 : k = 1
  · subst hk1
    simp -implicitDefEqProofs only [kz, kk0, kk1, kk2, kk3, ↓two_true, ↓two_false, oS_some, oM_some, mkv, aggAt, Nat.reduceLeDiff, Nat.reduceSub, Nat.reduceMul, implies_true, Nat.reduceEqDiff, reduceIte, Nat.reduceAdd, Nat.reduceBEq, reduceCtorEq, al63, bd63, ef63, eg63, fa77_0, fa77_1, fa77_2, fa77_3, fa77_4, ix64, ld3, ld63, ld64, ln64, st63, en, er, l1In_eq, specFunOne_eq, specFunTwo_eq, Int.reduceBEq]
    repeat' refine two_intro (fun h => ?_) (fun h => ?_)
    all_goals refine nodeEnd (fun h0 => ?_) (fun h0 => ?_)
    all_goals simp_all [ndOk, nxt]
  by_cases hk2 : k = 2
  · subst hk2
    simp -implicitDefEqProofs only [kz, kk0, kk1, kk2, kk3, ↓two_true, ↓two_false, oS_some, oM_some, mkv, aggAt, Nat.reduceLeDiff, Nat.reduceSub, Nat.reduceMul, implies_true, Nat.reduceEqDiff, reduceIte, Nat.reduceAdd, Nat.reduceBEq, reduceCtorEq, al63, bd63, ef63, eg63, fa77_0, fa77_1, fa77_2, fa77_3, fa77_4, ix64, ld3, ld63, ld64, ln64, st63, en, er, l1In_eq, specFunOne_eq, specFunTwo_eq, Int.reduceBEq]
    repeat' refine two_intro (fun h => ?_) (fun h => ?_)
    all_goals refine nodeEnd (fun h0 => ?_) (fun h0 => ?_)
    all_goals simp_all [ndOk, nxt]
  by_cases hk6 : k ≠ 3 ∧ k ≠ 4 ∧ k ≠ 5
  · obtain ⟨hk3, hk4, hk5⟩ := hk6
    simp -implicitDefEqProofs only [kz, kk0, kk1, kk2, kk3, ↓two_true, ↓two_false, oS_some, oM_some, mkv, aggAt, Nat.reduceLeDiff, Nat.reduceSub, Nat.reduceMul, implies_true, Nat.reduceEqDiff, reduceIte, Nat.reduceAdd, Nat.reduceBEq, reduceCtorEq, al63, bd63, ef63, eg63, fa77_0, fa77_1, fa77_2, fa77_3, fa77_4, ix64, ld3, ld63, ld64, ln64, st63, en, er, l1In_eq, specFunOne_eq, specFunTwo_eq, beq_eq_false_iff_ne.2 hk1, beq_eq_false_iff_ne.2 hk2, beq_eq_false_iff_ne.2 hk3, beq_eq_false_iff_ne.2 hk4, beq_eq_false_iff_ne.2 hk5]
    refine nodeEnd (fun h0 => ?_) (fun h0 => ?_)
    all_goals simp_all [ndOk, nxt]
  have hk : k = 3 ∨ k = 4 ∨ k = 5 := by omega
  rcases Nat.eq_zero_or_pos acc.length with hL | hL
  · have hn : nxt acc ⟨k, a, b, s, o, w, m⟩ = none := by unfold nxt; rw [if_neg (by simp only; omega), if_pos (.inr (.inr hL))]
    rw [hL]
    have d1 : decide (((0 : Nat) : Int) < 1) = true := by decide
    have d2 : decide (((0 : Nat) : Int) < 2) = true := by decide
    rcases hk with rfl | rfl | rfl
    all_goals simp -implicitDefEqProofs only [kz, kk0, kk1, kk2, kk3, ↓two_true, ↓two_false, oS_some, oM_some, mkv, aggAt, Nat.reduceLeDiff, Nat.reduceSub, Nat.reduceMul, implies_true, Nat.reduceEqDiff, reduceIte, Nat.reduceAdd, Nat.reduceBEq, reduceCtorEq, al63, bd63, ef63, eg63, fa77_0, fa77_1, fa77_2, fa77_3, fa77_4, ix64, ld3, ld63, ld64, ln64, st63, en, er, l1In_eq, specFunOne_eq, specFunTwo_eq, Int.reduceBEq, d1, d2]
    all_goals exact nodeEnd (fun h0 => by cases h0) (fun h0 => .inr hn)
  obtain ⟨b0, o0, cs, rfl, rfl, hrd, hle, hcell⟩ := go hL
  have ew : IntKind.i64.wrap ((acc.length : Int) - 1) = ((acc.length - 1 : Nat) : Int) := by rw [IntWalk.i64_in _ (by omega)]; omega
  have e1 : (acc.length : Int) - 1 = ((acc.length - 1 : Nat) : Int) := by omega
  have g1 := hb.g (i := acc.length - 1) (by omega)
  have gc : ∀ j : Nat, j < acc.length → cs[o0 + j]? = some (.int .i64 (gI acc j)) := fun j hj => by
    rw [hcell j hj]; have := gI_get hj; rw [List.getElem?_eq_getElem hj] at this; rw [Option.some.inj this]
  have d1 : decide ((acc.length : Int) < 1) = false := by simp; omega
  have gr : ∀ L, rd (H ++ L) b0 = some cs := fun L => by rw [rdl (by simp [hrd]), hrd]
  have wg : IntKind.i64.wrap (gI acc ((acc.length - 1 : Nat) : Int) + 1) = gI acc ((acc.length - 1 : Nat) : Int) + 1 := IntWalk.i64_in _ (by omega)
  rcases hk with rfl | rfl | rfl
  · simp -implicitDefEqProofs only [kz, kk0, kk1, kk2, kk3, ↓two_true, ↓two_false, oS_some, oM_some, mkv, aggAt, Nat.reduceLeDiff, Nat.reduceSub, Nat.reduceMul, implies_true, Nat.reduceEqDiff, reduceIte, Nat.reduceAdd, Nat.reduceBEq, reduceCtorEq, al63, bd63, ef63, eg63, fa77_0, fa77_1, fa77_2, fa77_3, fa77_4, ix64, ld3, ld63, ld64, ln64, st63, en, er, l1In_eq, specFunOne_eq, specFunTwo_eq, Int.reduceBEq,  d1, ew, Int.toNat_natCast, Nat.mul_one, gr, gc _ (show acc.length - 1 < acc.length by omega), wg]
    refine two_intro (fun h => nodeEnd (fun h0 => by cases h0) fun _ => .inr ?_) (fun h => ⟨by omega, ?_⟩)
    · have h' : b ≠ ((acc.length - 1 : Nat) : Int) := by simpa using h
      unfold nxt; rw [if_neg (by simp only; decide), if_pos (.inr (.inl ⟨by simp only; decide, by simp only; omega⟩))]
    · have h' : b = ((acc.length - 1 : Nat) : Int) := by simpa using h
      have hn : nxt acc ⟨3, a, b, s, o, w, m⟩ = some (gI acc ((acc.length - 1 : Nat) : Int) + 1) := by
        unfold nxt; rw [if_neg (by simp only; decide), if_neg (by simp only; omega), if_pos (by simp only; decide), e1, Int.add_comm]
      clear wg ew e1 gc gr g1 go
      repeat' refine two_intro (fun h1 => ?_) (fun h1 => ?_)
      all_goals refine nodeEnd (fun h0 => ⟨?_, hn⟩) (fun h0 => .inl ?_)
      all_goals simp_all [ndOk]
  · simp -implicitDefEqProofs only [kz, kk0, kk1, kk2, kk3, ↓two_true, ↓two_false, oS_some, oM_some, mkv, aggAt, Nat.reduceLeDiff, Nat.reduceSub, Nat.reduceMul, implies_true, Nat.reduceEqDiff, reduceIte, Nat.reduceAdd, Nat.reduceBEq, reduceCtorEq, al63, bd63, ef63, eg63, fa77_0, fa77_1, fa77_2, fa77_3, fa77_4, ix64, ld3, ld63, ld64, ln64, st63, en, er, l1In_eq, specFunOne_eq, specFunTwo_eq, Int.reduceBEq,  d1, ew, Int.toNat_natCast, Nat.mul_one, gr, gc _ (show acc.length - 1 < acc.length by omega), wg]
    refine two_intro (fun h => nodeEnd (fun h0 => by cases h0) fun _ => .inr ?_) (fun h => ⟨by omega, ?_⟩)
    · have h' : b ≠ ((acc.length - 1 : Nat) : Int) := by simpa using h
      unfold nxt; rw [if_neg (by simp only; decide), if_pos (.inr (.inl ⟨by simp only; decide, by simp only; omega⟩))]
    · have h' : b = ((acc.length - 1 : Nat) : Int) := by simpa using h
      have hn : nxt acc ⟨4, a, b, s, o, w, m⟩ = some (gI acc ((acc.length - 1 : Nat) : Int) + 1) := by
        unfold nxt; rw [if_neg (by simp only; decide), if_neg (by simp only; omega), if_pos (by simp only; decide), e1, Int.add_comm]
      clear wg ew e1 gc gr g1 go
      repeat' refine two_intro (fun h1 => ?_) (fun h1 => ?_)
      all_goals refine nodeEnd (fun h0 => ⟨?_, hn⟩) (fun h0 => .inl ?_)
      all_goals simp_all [ndOk]
  · have hF : (acc.length : Int) < 2 ∨ a ≠ ((acc.length - 1 : Nat) : Int) ∨ b ≠ ((acc.length - 1 : Nat) : Int) - gI acc ((acc.length - 1 : Nat) : Int) ∨ b < 0 → nxt acc ⟨5, a, b, s, o, w, m⟩ = none := by
      intro h
      unfold nxt
      rw [if_neg (by simp only; decide)]
      by_cases h1 : a = (acc.length : Int) - 1
      · rw [if_neg (by simp only; omega), if_neg (by simp only; decide), if_pos (by simp only; rw [e1]; omega)]
      · rw [if_pos (.inl ⟨rfl, h1⟩)]
    have wg2 : IntKind.i64.wrap (((acc.length - 1 : Nat) : Int) - gI acc ((acc.length - 1 : Nat) : Int)) = ((acc.length - 1 : Nat) : Int) - gI acc ((acc.length - 1 : Nat) : Int) := IntWalk.i64_in _ (by omega)
    by_cases hA : 2 ≤ acc.length ∧ a = ((acc.length - 1 : Nat) : Int) ∧ b = ((acc.length - 1 : Nat) : Int) - gI acc ((acc.length - 1 : Nat) : Int) ∧ 0 ≤ b
    · obtain ⟨h2, rfl, hb5, hb0⟩ := hA
      obtain ⟨j, hj⟩ : ∃ j : Nat, b = j := ⟨b.toNat, by omega⟩
      subst hj
      have hjl : j < acc.length := by omega
      have g2 := hb.g hjl
      have d2 : decide ((acc.length : Int) < 2) = false := by simp; omega
      have d3 : decide ((j : Int) < 0) = false := decide_eq_false (by omega)
      have wg3 : IntKind.i64.wrap (gI acc ((acc.length - 1 : Nat) : Int) + gI acc (j : Int)) = gI acc ((acc.length - 1 : Nat) : Int) + gI acc (j : Int) := IntWalk.i64_in _ (by omega)
      have wg4 : IntKind.i64.wrap (gI acc ((acc.length - 1 : Nat) : Int) + gI acc (j : Int) + 1) = gI acc ((acc.length - 1 : Nat) : Int) + gI acc (j : Int) + 1 := IntWalk.i64_in _ (by omega)
      have hn : nxt acc ⟨5, ((acc.length - 1 : Nat) : Int), j, s, o, w, m⟩ = some (gI acc ((acc.length - 1 : Nat) : Int) + gI acc (j : Int) + 1) := by
        unfold nxt
        rw [if_neg (by simp only; decide), if_neg (by simp only; omega), if_neg (by simp only; decide), if_neg (by simp only; rw [e1]; omega), e1, ← hb5]
        try (congr 1; omega)
      have wj : IntKind.i64.wrap (j : Int) = j := IntWalk.i64_in _ (by omega)
      simp -implicitDefEqProofs only [kz, kk0, kk1, kk2, kk3, ↓two_true, ↓two_false, oS_some, oM_some, mkv, aggAt, Nat.reduceLeDiff, Nat.reduceSub, Nat.reduceMul, implies_true, Nat.reduceEqDiff, reduceIte, Nat.reduceAdd, Nat.reduceBEq, reduceCtorEq, al63, bd63, ef63, eg63, fa77_0, fa77_1, fa77_2, fa77_3, fa77_4, ix64, ld3, ld63, ld64, ln64, st63, en, er, l1In_eq, specFunOne_eq, specFunTwo_eq, Int.reduceBEq,  d2, d3, ew, wg2, wg3, wg4, Int.toNat_natCast, Nat.mul_one, gr, gc _ (show acc.length - 1 < acc.length by omega), gc _ hjl, ← hb5, wj, bne_self_eq_false]
      clear wg wg2 wg3 wg4 ew e1 gc gr g1 go hF wj
      refine ⟨by omega, by omega, by omega, ?_⟩
      repeat' refine two_intro (fun h1 => ?_) (fun h1 => ?_)
      all_goals refine nodeEnd (fun h0 => ⟨?_, hn⟩) (fun h0 => .inl ?_)
      all_goals simp_all [ndOk]
    · have hn := hF (by omega)
      simp -implicitDefEqProofs only [kz, kk0, kk1, kk2, kk3, ↓two_true, ↓two_false, oS_some, oM_some, mkv, aggAt, Nat.reduceLeDiff, Nat.reduceSub, Nat.reduceMul, implies_true, Nat.reduceEqDiff, reduceIte, Nat.reduceAdd, Nat.reduceBEq, reduceCtorEq, al63, bd63, ef63, eg63, fa77_0, fa77_1, fa77_2, fa77_3, fa77_4, ix64, ld3, ld63, ld64, ln64, st63, en, er, l1In_eq, specFunOne_eq, specFunTwo_eq, Int.reduceBEq,  ew, wg2, Int.toNat_natCast, Nat.mul_one, gr, gc _ (show acc.length - 1 < acc.length by omega)]
      refine two_intro (fun h => nodeEnd (fun h0 => by cases h0) fun _ => .inr hn) (fun h1 => two_intro (fun h => nodeEnd (fun h0 => by cases h0) fun _ => .inr hn) (fun h2 => ⟨by omega, two_intro (fun h => nodeEnd (fun h0 => by cases h0) fun _ => .inr hn) (fun h3 => two_intro (fun h => nodeEnd (fun h0 => by cases h0) fun _ => .inr hn) (fun h4 => ?_))⟩))
      exact absurd ⟨by simp at h1; omega, by simpa using h2, by simpa using h3, by simpa using h4⟩ hA

theorem ndOk_k {x : Nd} (h : ndOk x = true) : x.k = 1 ∨ x.k = 2 ∨ x.k = 3 ∨ x.k = 4 ∨ x.k = 5 := by
  unfold ndOk at h
  simp only [Bool.or_eq_true, Bool.and_eq_true, beq_iff_eq] at h
  omega

theorem gI_end {w : List Int} {n : Nat} (h : w.length = n) (hn : 0 < n) : w[n - 1]? = some (gI w ((n : Int) - 1)) := by
  have := gI_get (l := w) (i := n - 1) (by omega)
  rw [this, show ((n : Int) - 1) = ((n - 1 : Nat) : Int) by omega]
theorem trOk_eq {l : List Nd} {n : Nat} (h : l.length = n) : trOk l = (inB n 1 60 && (l.all ndOk && (match ownG [] l with | some w => gI w ((n : Int) - 1) == n | none => false))) := by
  subst h; rfl

set_option maxHeartbeats 4000000 in
theorem specTreeOk_ok {H : AH} {v : Value} {n : Nat} {xs : List Value} (hv : FRow H v kExpr n xs) (hl : n ≤ 1048576) :
    CallsA Try.prog 22 #[.agg #[v]] H fun r H' => r = .bool (trOk (ndL (cvs H xs) n)) ∧ ∃ K, H' = H ++ K := by
  obtain ⟨a, c, rfl, gv⟩ := hv.opn 7 rfl
  generalize hL : ndL (cvs H xs) n = l
  have hll : l.length = n := by rw [← hL, ndL_len]
  rw [trOk_eq hll]
  refine w22 ?_
  unfold k22
  simp -implicitDefEqProofs only [kz, kk0, kk1, kk2, kk3, ↓two_true, ↓two_false, oS_some, oM_some, mkv, aggAt, Nat.reduceLeDiff, Nat.reduceSub, Nat.reduceMul, implies_true, Nat.reduceEqDiff, reduceIte, Nat.reduceAdd, Nat.reduceBEq, reduceCtorEq, ap64_64, bs64_0, bs64_1, fa39_0, ix37, ix64, ld3, ld37, ld77, ln37, l1In_eq]
  refine two_intro (fun h1 => ?_) (fun h1 => ?_)
  · rw [show inB n 1 60 = false by simpa using h1]
    exact ⟨rfl, _, rfl⟩
  · have hb : inB n 1 60 = true := by simpa using h1
    have hb2 : 1 ≤ n ∧ n ≤ 60 := by simp [inB] at hb; omega
    rw [hb]
    refine rW_loop (σ := Option Addr × Nat × List Int) (fun (a', c', acc) tm H' => tm 1 = .pointer (some ⟨H.length, 0, none⟩) ∧ tm 3 = .int .i64 n ∧ tm 5 = .int .i64 acc.length ∧ tm 4 = .slice a' acc.length c' ∧ acc.length ≤ n ∧ OwnRow H' (.slice a' acc.length c') acc ∧ (∀ b, blkOf (.slice a' acc.length c') = some b → (H ++ [⟨[.slice a n c], .own⟩] : AH).length ≤ b) ∧ (∃ K, H' = (H ++ [⟨[.slice a n c], .own⟩]) ++ K) ∧ ownG [] l = ownG acc (l.drop acc.length) ∧ OwB acc ∧ ∀ x ∈ l.take acc.length, ndOk x = true) (fun s => n - s.2.2.length) (some ⟨H.length + 1, 0, none⟩, 1, []) ?_ ?_
    · simp -implicitDefEqProofs [kk0, kk1, kk2, kk3, rW_block, ↓two_true, ↓two_false, rW_cond, rO_guard, oS_some, oM_some, mkv, aggAt, Nat.reduceLeDiff, Nat.reduceSub, Nat.reduceMul, cond_true, cond_false, Option.bind_some, List.length_append, List.length_cons, List.length_nil, List.append_assoc, List.cons_append, List.nil_append, List.set_cons_zero, List.set_cons_succ, List.size_toArray, List.all_cons, List.all_nil, List.drop_zero, List.drop_succ_cons, List.take_succ_cons, List.take_zero, List.mem_cons, Prod.mk.injEq, List.not_mem_nil, implies_true, List.getElem?_toArray, List.getElem?_cons_zero, List.getElem?_cons_succ, List.getElem?_nil, Option.getD_some, Option.getD_none, Nat.reduceEqDiff, reduceIte, Nat.reduceAdd, List.map_toArray, List.map_cons, List.map_nil, Bool.false_eq_true, Nat.reduceBEq, Option.map_some, Option.map_none, reduceCtorEq, ap64_64, bs64_0, bs64_1, fa39_0, ix37, ix64, ld3, ld37, ld77, ln37, OwB.nil]
      exact ⟨.inr ⟨H.length + 1, 0, [], rfl, by simp, by simp, by simp [ints]⟩, fun b hb => by simp [blkOf] at hb; omega⟩
    · rintro ⟨a', c', acc⟩ tm H1 ⟨ht1, ht3, ht5, ht4, hi, ho, hf, he, hown, hob, hnd⟩
      have g0 : rd H1 H.length = some [.slice a n c] := rd_ext (rd_own (by rw [gt0]; rfl)) he
      have he1 : ∃ K, H1 = H ++ K := by obtain ⟨K, rfl⟩ := he; exact ⟨_, List.append_assoc ..⟩
      simp -implicitDefEqProofs only [kz, kk0, kk1, kk2, kk3, ↓two_true, ↓two_false, oS_some, oM_some, mkv, aggAt, Nat.reduceLeDiff, Nat.reduceSub, Nat.reduceMul, implies_true, Nat.reduceEqDiff, reduceIte, Nat.reduceAdd, Nat.reduceBEq, reduceCtorEq, ap64_64, bs64_0, bs64_1, fa39_0, ix37, ix64, ld3, ld37, ld77, ln37, ht1, ht3, ht5, ht4]
      refine two_intro (fun hc' => ?_) (fun hc' => ?_)
      · have hlt : acc.length < n := by simpa using hc'
        obtain ⟨b, o, cs, rfl, rfl, hrd, hle, hcell⟩ := gv (by omega)
        have x1 := hv.elemn 7 rfl hlt
        have hin : l[acc.length]? = some (ndOf ((elm 7 xs acc.length).map (cv H))) := by rw [← hL]; exact ndL_get hlt
        have hlt2 : acc.length < l.length := by omega
        have hing : l[acc.length] = ndOf ((elm 7 xs acc.length).map (cv H)) := by rw [List.getElem?_eq_getElem hlt2] at hin; exact Option.some.inj hin
        have hdr : l.drop acc.length = ndOf ((elm 7 xs acc.length).map (cv H)) :: l.drop (acc.length + 1) := by
          rw [List.drop_eq_getElem_cons hlt2, hing]
        obtain ⟨x2, x3⟩ := x1.ext he1
        have g1 := rd_ext hrd he1
        have l1 : ld Try.prog 77 (o + acc.length * 7) cs = some (.agg (elm 7 xs acc.length).toArray) := by rw [ld77]; exact (hcell _ hlt).1
        simp -implicitDefEqProofs only [kz, kk0, kk1, kk2, kk3, ↓two_true, ↓two_false, oS_some, oM_some, mkv, aggAt, Nat.reduceLeDiff, Nat.reduceSub, Nat.reduceMul, implies_true, Nat.reduceEqDiff, reduceIte, Nat.reduceAdd, Nat.reduceBEq, reduceCtorEq, ap64_64, bs64_0, bs64_1, fa39_0, ix37, ix64, ld3, ld37, ld77, ln37, ht1, ht3, ht5, ht4, Int.toNat_natCast, g0, g1, l1]
        refine ⟨by omega, (l9Node_el x2 ho.int hob (by omega)).mono ?_⟩
        rintro _ H2 ⟨⟨kk, ok, rfl, hk1, hk2⟩, hK2⟩
        rw [x3] at hk1 hk2
        have he2 := ext_trans he hK2
        have ho2 := ho.ext hK2
        cases ok with
        | false =>
          simp -implicitDefEqProofs only [kz, kk0, kk1, kk2, kk3, ↓two_true, ↓two_false, oS_some, oM_some, mkv, aggAt, Nat.reduceLeDiff, Nat.reduceSub, Nat.reduceMul, implies_true, Nat.reduceEqDiff, reduceIte, Nat.reduceAdd, Nat.reduceBEq, reduceCtorEq, ap64_64, bs64_0, bs64_1, fa39_0, ix37, ix64, ld3, ld37, ld77, ln37, ht1, ht3, ht5, ht4, Bool.not_true, Bool.not_false]
          refine ⟨?_, by obtain ⟨K, rfl⟩ := he2; exact ⟨_, List.append_assoc ..⟩⟩
          rcases hk2 rfl with h | h
          · have : l.all ndOk = false := by
              rw [Bool.eq_false_iff]
              intro ha
              rw [(List.all_eq_true.1 ha) _ (List.mem_of_getElem? hin)] at h
              cases h
            rw [this]; simp
          · have : ownG [] l = none := by rw [hown, hdr, ownG, h]
            rw [this]; simp
        | true =>
          obtain ⟨hk3, hk4⟩ := hk1 rfl
          simp -implicitDefEqProofs only [kz, kk0, kk1, kk2, kk3, ↓two_true, ↓two_false, oS_some, oM_some, mkv, aggAt, Nat.reduceLeDiff, Nat.reduceSub, Nat.reduceMul, implies_true, Nat.reduceEqDiff, reduceIte, Nat.reduceAdd, Nat.reduceBEq, reduceCtorEq, ap64_64, bs64_0, bs64_1, fa39_0, ix37, ix64, ld3, ld37, ld77, ln37, ht1, ht3, ht5, ht4, Bool.not_true, Bool.not_false]
          refine oA_own ho2.mono intRow1 (by simp; omega) fun a6 c6 H5 o6 x7 => ?_
          have hff : ∀ b, blkOf (.slice a6 (acc.length + [kk].length) c6) = some b → (H ++ [⟨[.slice (some ⟨b, o, none⟩) n 7], .own⟩] : AH).length ≤ b := fun b' hb' => by
            rcases x7.new b' hb' with h | h
            · have := hf b' h; simp at this ⊢; exact this
            · have := ext_len he2; simp at h this ⊢; omega
          have he5 := x7.ext (app_ext he2) hf
          simp -implicitDefEqProofs only [kz, kk0, kk1, kk2, kk3, ↓two_true, ↓two_false, oS_some, oM_some, mkv, aggAt, Nat.reduceLeDiff, Nat.reduceSub, Nat.reduceMul, implies_true, Nat.reduceEqDiff, reduceIte, Nat.reduceAdd, Nat.reduceBEq, reduceCtorEq, ap64_64, bs64_0, bs64_1, fa39_0, ix37, ix64, ld3, ld37, ld77, ln37, ht1, ht3, ht5, ht4, IntWalk.i64_in ((acc.length : Int) + 1) (by omega)]
          refine ⟨(a6, c6, acc ++ [kk]), ?_⟩
          simp only [List.length_append, List.length_cons, List.length_nil, Nat.zero_add] at o6 hff ⊢
          refine ⟨by omega, by simp, trivial, by omega, o6, hff, by obtain ⟨K, hK⟩ := he5; exact ⟨K, by rw [hK, List.append_assoc]; rfl⟩, by rw [hown, hdr, ownG, hk4], hob.nxt hk4, fun x hx => ?_⟩
          rw [List.take_succ_eq_append_getElem hlt2, hing] at hx
          rcases List.mem_append.1 hx with hx | hx
          · exact hnd x hx
          · rw [List.mem_singleton.1 hx]; exact hk3
      · have hil : acc.length = n := by have : ¬ acc.length < n := by simpa using hc'
                                        omega
        have hall : l.all ndOk = true := List.all_eq_true.2 fun x hx => hnd x (by rw [List.take_of_length_le (by omega)]; exact hx)
        have hN : ownG [] l = some acc := by rw [hown, List.drop_of_length_le (by omega), ownG]
        obtain ⟨b2, o2, cs2, e2, hb3, hle2, hcs2⟩ := ho.blk (by omega)
        simp only [Value.slice.injEq] at e2
        obtain ⟨rfl, _, rfl⟩ := e2
        have hg := hcs2 (n - 1) _ (gI_end hil (by omega))
        have wl : IntKind.i64.wrap ((n : Int) - 1) = ((n - 1 : Nat) : Int) := by rw [IntWalk.i64_in _ (by omega)]; omega
        simp -implicitDefEqProofs only [kz, kk0, kk1, kk2, kk3, ↓two_true, ↓two_false, oS_some, oM_some, mkv, aggAt, Nat.reduceLeDiff, Nat.reduceSub, Nat.reduceMul, implies_true, Nat.reduceEqDiff, reduceIte, Nat.reduceAdd, Nat.reduceBEq, reduceCtorEq, ap64_64, bs64_0, bs64_1, fa39_0, ix37, ix64, ld3, ld37, ld77, ln37, ht1, ht3, ht5, ht4, wl, hil, Int.toNat_natCast, Nat.mul_one, rd_own hb3, hg, hall, hN]
        exact ⟨by omega, by simp, by obtain ⟨K, rfl⟩ := he; exact ⟨_, List.append_assoc ..⟩⟩

def isDg (c : Int) : Bool := decide (48 ≤ c) && decide (c ≤ 57)
/-- The digits from a place on. -/
def digE (s : ByteArray) : Nat → Nat → Int → Int × Nat
  | 0, p, n => (n, p)
  | f + 1, p, n => if p < s.size ∧ isDg (byt s p) = true then digE s f (p + 1) (min (10 * n + (byt s p - 48)) 1000000000001) else (n, p)
/-- The number from a place on. -/
def numT (s : ByteArray) (p q : Nat) (neg : Bool) : Int × Int × Nat × Int :=
  if (digE s s.size q 0).2 = q then (0, 0, p, 8)
  else if 1000000000000 < (digE s s.size q 0).1 then (0, 0, p, 6)
  else (1, (if neg then -(digE s s.size q 0).1 else (digE s s.size q 0).1), (digE s s.size q 0).2, 0)
/-- The token at a place: its kind, its value, the place behind, a code. -/
def tokL (s : ByteArray) (p : Nat) : Int × Int × Nat × Int :=
  if byt s p = 95 then numT s p (p + 1) true
  else if isDg (byt s p) = true then numT s p p false
  else if 65 ≤ byt s p ∧ byt s p ≤ 90 then (2, byt s p - 65, p + 1, 0)
  else if byt s p = 40 then (4, 0, p + 1, 0)
  else if byt s p = 41 then (5, 0, p + 1, 0)
  else if byt s p = 58 then (6, 0, p + 1, 0)
  else if hasS tkSigns (byt s p) = true then (3, byt s p, p + 1, 0)
  else (0, 0, p, 8)
/-- The tokens from a place on, behind those that are told; a code, and a place. -/
def lexE (s : ByteArray) : Nat → Nat → List (Int × Int) → List (Int × Int) × Int × Nat
  | 0, _, acc => (acc, 0, s.size)
  | f + 1, p, acc =>
    if p < s.size then
      if byt s p = 32 then lexE s f (p + 1) acc
      else if (tokL s p).2.2.2 ≠ 0 then ([], (tokL s p).2.2.2, p)
      else lexE s f (tokL s p).2.2.1 (acc ++ [((tokL s p).1, (tokL s p).2.1)])
    else (acc, 0, s.size)
def lexA (s : ByteArray) : List (Int × Int) × Int × Nat := if s.size > 300 then ([], 6, 0) else lexE s s.size 0 []
def tokV (l : List (Int × Int)) : List CV := l.flatMap fun t => [.i t.1, .i t.2]
theorem tokV_snoc {l : List (Int × Int)} {a b : Int} : tokV (l ++ [(a, b)]) = tokV l ++ [.i a, .i b] := by simp [tokV]
theorem digE_pos {s : ByteArray} : ∀ (f : Nat) (p : Nat) (n : Int), 0 ≤ n → n ≤ 1000000000001 → p ≤ s.size → 0 ≤ (digE s f p n).1 ∧ (digE s f p n).1 ≤ 1000000000001 ∧ p ≤ (digE s f p n).2 ∧ (digE s f p n).2 ≤ s.size
  | 0, p, n, h0, h1, h2 => by simp [digE]; omega
  | f + 1, p, n, h0, h1, h2 => by
    unfold digE
    split
    · rename_i hc
      have hd : 48 ≤ byt s p ∧ byt s p ≤ 57 := by simpa [isDg] using hc.2
      have := digE_pos (s := s) f (p + 1) (min (10 * n + (byt s p - 48)) 1000000000001) (by omega) (by omega) (by omega)
      omega
    · simp only; omega
theorem numT_next {s : ByteArray} {p q : Nat} {neg : Bool} (hp : p ≤ q) (hq : q ≤ s.size) (hc : (numT s p q neg).2.2.2 = 0) : p < (numT s p q neg).2.2.1 ∧ (numT s p q neg).2.2.1 ≤ s.size := by
  have hd := digE_pos (s := s) s.size q 0 (by omega) (by omega) hq
  unfold numT at hc ⊢
  by_cases h1 : (digE s s.size q 0).2 = q
  · rw [if_pos h1] at hc; simp at hc
  · rw [if_neg h1] at hc ⊢
    by_cases h2 : 1000000000000 < (digE s s.size q 0).1
    · rw [if_pos h2] at hc; simp at hc
    · rw [if_neg h2]; simp only; omega
theorem tokL_next {s : ByteArray} {p : Nat} (hp : p < s.size) (hc : (tokL s p).2.2.2 = 0) : p < (tokL s p).2.2.1 ∧ (tokL s p).2.2.1 ≤ s.size := by
  unfold tokL at hc ⊢
  by_cases h1 : byt s p = 95
  · rw [if_pos h1] at hc ⊢; exact numT_next (by omega) (by omega) hc
  rw [if_neg h1] at hc ⊢
  by_cases h2 : isDg (byt s p) = true
  · rw [if_pos h2] at hc ⊢; exact numT_next (by omega) (by omega) hc
  rw [if_neg h2] at hc ⊢
  by_cases h3 : 65 ≤ byt s p ∧ byt s p ≤ 90
  · rw [if_pos h3]; simp only; omega
  rw [if_neg h3] at hc ⊢
  by_cases h4 : byt s p = 40
  · rw [if_pos h4]; simp only; omega
  rw [if_neg h4] at hc ⊢
  by_cases h5 : byt s p = 41
  · rw [if_pos h5]; simp only; omega
  rw [if_neg h5] at hc ⊢
  by_cases h6 : byt s p = 58
  · rw [if_pos h6]; simp only; omega
  rw [if_neg h6] at hc ⊢
  by_cases h7 : hasS tkSigns (byt s p) = true
  · rw [if_pos h7]; simp only; omega
  rw [if_neg h7] at hc
  simp at hc
theorem min_if2 {a b : Int} : min a b = if a < b then a else b := by split <;> omega
theorem digE_stop {s : ByteArray} {f p : Nat} {n : Int} (h : ¬ (p < s.size ∧ isDg (byt s p) = true)) : digE s f p n = (n, p) := by
  cases f with
  | zero => rfl
  | succ f => unfold digE; rw [if_neg h]
theorem digE_go {s : ByteArray} {f p : Nat} {n : Int} (h1 : p < s.size) (h2 : isDg (byt s p) = true) (hf : s.size - p ≤ f) : ∃ f', s.size - (p + 1) ≤ f' ∧ digE s f p n = digE s f' (p + 1) (min (10 * n + (byt s p - 48)) 1000000000001) := by
  cases f with
  | zero => omega
  | succ f => exact ⟨f, by omega, by rw [digE]; rw [if_pos ⟨h1, h2⟩]⟩
theorem lexE_stop {s : ByteArray} {f p : Nat} {acc : List (Int × Int)} (h : ¬ p < s.size) : lexE s f p acc = (acc, 0, s.size) := by
  cases f with
  | zero => rfl
  | succ f => unfold lexE; rw [if_neg h]
theorem lexE_go {s : ByteArray} {f p : Nat} {acc : List (Int × Int)} (h1 : p < s.size) (hf : s.size - p ≤ f) : ∃ f', s.size - (p + 1) ≤ f' ∧ lexE s f p acc = if byt s p = 32 then lexE s f' (p + 1) acc else if (tokL s p).2.2.2 ≠ 0 then ([], (tokL s p).2.2.2, p) else lexE s f' (tokL s p).2.2.1 (acc ++ [((tokL s p).1, (tokL s p).2.1)]) := by
  cases f with
  | zero => omega
  | succ f => exact ⟨f, by omega, by rw [lexE, if_pos h1]⟩

theorem l8Digit_eq {s : ByteArray} {p : Nat} (hp : p ≤ s.size) (hs : s.size ≤ 1048576) {H : AH} {Φ : Value → AH → Prop} : CallsA Try.prog 37 #[.string s, .int .i64 p] H Φ = Φ (.bool (decide (p < s.size) && isDg (byt s p))) H := by
  have : CallsA Try.prog 37 #[.string s, .int .i64 p] H fun r H' => r = .bool (decide (p < s.size) && isDg (byt s p)) ∧ H' = H := by
    refine w37 ?_
    unfold k37
    simp -implicitDefEqProofs only [kz, kk0, kk1, kk2, kk3, ↓two_true, ↓two_false, oS_some, oM_some, mkv, aggAt, Nat.reduceLeDiff, Nat.reduceSub, Nat.reduceMul, implies_true, Nat.reduceEqDiff, reduceIte, Nat.reduceAdd, Nat.reduceBEq, reduceCtorEq, (idx_str us9), ln9, Int.toNat_natCast]
    unfold isDg
    refine two_intro (fun h => ⟨by simp at h; omega, two_intro (fun h1 => ⟨by simp at h; omega, ?_⟩) (fun h1 => ?_)⟩) (fun h => ?_)
    · rw [show decide (p < s.size) = true by simpa using h, show decide (48 ≤ byt s p) = true from h1]; simp
    · rw [show decide (48 ≤ byt s p) = false from h1]; simp
    · rw [show decide (p < s.size) = false by simpa using h]; simp
  exact this.eq0

set_option maxHeartbeats 4000000 in
theorem l8Num_ok {s : ByteArray} {p : Nat} (hp : p < s.size) (hs : s.size ≤ 1048576) {H : AH} (hd : isDg (byt s p) = true ∨ byt s p = 95) : CallsA Try.prog 38 #[.string s, .int .i64 p] H fun r H' => (∃ q : Nat, r = .tuple #[.int .i64 (tokL s p).2.1, .int .i64 q, .int .i64 (tokL s p).2.2.2] ∧ ((tokL s p).2.2.2 = 0 → q = (tokL s p).2.2.1)) ∧ H' = H := by
  refine w38 ?_
  unfold k38
  by_cases h95 : byt s p = 95
  · have e95 : (byt s p == 95) = true := by simp [h95]
    have et : tokL s p = numT s p (p + 1) true := by unfold tokL; rw [if_pos h95]
    rw [et]
    have wp : IntKind.i64.wrap ((p : Int) + 1) = ((p + 1 : Nat) : Int) := by rw [IntWalk.i64_in _ (by omega)]; omega
    simp -implicitDefEqProofs only [kz, kk0, kk1, kk2, kk3, ↓two_true, ↓two_false, oS_some, oM_some, mkv, aggAt, Nat.reduceLeDiff, Nat.reduceSub, Nat.reduceMul, implies_true, Nat.reduceEqDiff, reduceIte, Nat.reduceAdd, Nat.reduceBEq, reduceCtorEq, cv5_3, (idx_str us9), Int.toNat_natCast, e95, wp, l8Digit_eq (p := p + 1) (by omega) hs]
    refine ⟨by omega, ?_⟩
    refine two_intro (fun hq => ?_) (fun hq => ?_)
    · have hst := digE_stop (s := s) (f := s.size) (n := 0) (p := p + 1) (fun h => by simp [h.1, h.2] at hq)
      have hlast : numT s p (p + 1) true = (0, 0, p, 8) := by unfold numT; rw [hst, if_pos rfl]
      rw [hlast]
      exact ⟨_, rfl, fun h => by simp at h⟩
    · have hq' : p + 1 < s.size ∧ isDg (byt s (p + 1)) = true := by simpa using hq
      refine rW_loop (σ := Nat × Nat × Int) (fun (f, e, n) tm H' => tm 0 = .string s ∧ tm 1 = .int .i64 e ∧ tm 7 = .bool true ∧ tm 8 = .int .i64 n ∧ H' = H ∧ s.size - e ≤ f ∧ p + 1 ≤ e ∧ e ≤ s.size ∧ 0 ≤ n ∧ n ≤ 1000000000001 ∧ digE s s.size (p + 1) 0 = digE s f e n) (fun x => s.size - x.2.1) (s.size, p + 1, 0) ?_ ?_
      · simp -implicitDefEqProofs [kk0, kk1, kk2, kk3, rW_block, ↓two_true, ↓two_false, rW_cond, rO_guard, oS_some, oM_some, mkv, aggAt, Nat.reduceLeDiff, Nat.reduceSub, Nat.reduceMul, cond_true, cond_false, Option.bind_some, List.length_append, List.length_cons, List.length_nil, List.append_assoc, List.cons_append, List.nil_append, List.set_cons_zero, List.set_cons_succ, List.size_toArray, List.all_cons, List.all_nil, List.drop_zero, List.drop_succ_cons, List.take_succ_cons, List.take_zero, List.mem_cons, Prod.mk.injEq, List.not_mem_nil, implies_true, List.getElem?_toArray, List.getElem?_cons_zero, List.getElem?_cons_succ, List.getElem?_nil, Option.getD_some, Option.getD_none, Nat.reduceEqDiff, reduceIte, Nat.reduceAdd, List.map_toArray, List.map_cons, List.map_nil, Bool.false_eq_true, Nat.reduceBEq, Option.map_some, Option.map_none, reduceCtorEq, cv5_3, (idx_str us9)]
        omega
      · rintro ⟨f, e, n⟩ tm H' ⟨h0, h1, h7, h8, rfl, hf, hqe, hes, hn0, hn1, hd⟩
        by_cases hc : e < s.size ∧ isDg (byt s e) = true
        · have d1 : (decide (e < s.size) && isDg (byt s e)) = true := by simp [hc.1, hc.2]
          have hb : 48 ≤ byt s e ∧ byt s e ≤ 57 := by simpa [isDg] using hc.2
          obtain ⟨f', hf', hgo⟩ := digE_go (n := n) hc.1 hc.2 hf
          simp -implicitDefEqProofs only [kz, kk0, kk1, kk2, kk3, ↓two_true, ↓two_false, oS_some, oM_some, mkv, aggAt, Nat.reduceLeDiff, Nat.reduceSub, Nat.reduceMul, implies_true, Nat.reduceEqDiff, reduceIte, Nat.reduceAdd, Nat.reduceBEq, reduceCtorEq, cv5_3, (idx_str us9), h0, h1, h7, h8, l8Digit_eq hes hs, l1Min_eq, specNumOk_eq, Int.toNat_natCast, d1, IntWalk.i64_in (byt s e) (by omega), IntWalk.i64_in (10 * n) (by omega), IntWalk.i64_in (10 * n + byt s e) (by omega), IntWalk.i64_in (10 * n + byt s e - 48) (by omega), IntWalk.i64_in ((e : Int) + 1) (by omega)]
          refine ⟨by omega, (f', e + 1, min (10 * n + (byt s e - 48)) 1000000000001), by simp only; omega, ?_⟩
          exact ⟨by simp, by rw [min_if2, show 10 * n + byt s e - 48 = 10 * n + (byt s e - 48) by omega], by simp only; omega, by simp only; omega, by simp only; omega, by simp only; omega, by simp only; omega, by rw [hd, hgo]⟩
        · have hst := digE_stop (f := f) (n := n) hc
          rw [hst] at hd
          have hne : ¬ e = p + 1 := fun h => by subst h; exact hc hq'
          have hlast : numT s p (p + 1) true = if 1000000000000 < n then (0, 0, p, 6) else (1, (if true then -n else n), e, 0) := by unfold numT; rw [hd, if_neg hne]
          rw [hlast]
          have d1 : (decide (e < s.size) && isDg (byt s e)) = false := by simpa using hc
          have wn : IntKind.i64.wrap (0 - n) = -n := by rw [IntWalk.i64_in _ (by omega)]; omega
          simp -implicitDefEqProofs only [kz, kk0, kk1, kk2, kk3, ↓two_true, ↓two_false, oS_some, oM_some, mkv, aggAt, Nat.reduceLeDiff, Nat.reduceSub, Nat.reduceMul, implies_true, Nat.reduceEqDiff, reduceIte, Nat.reduceAdd, Nat.reduceBEq, reduceCtorEq, cv5_3, (idx_str us9), h0, h1, h7, h8, l8Digit_eq hes hs, l1Min_eq, specNumOk_eq, Int.toNat_natCast, d1, wn]
          refine two_intro (fun h2 => ?_) (fun h2 => ?_)
          · rw [if_pos (by have : numOk n = false := by simpa using h2
                           simp [numOk, inB] at this; omega)]
            exact ⟨_, rfl, fun h => by simp at h⟩
          · rw [if_neg (by have : numOk n = true := by simpa using h2
                           simp [numOk, inB] at this; omega)]
            exact ⟨_, rfl, fun _ => rfl⟩
  · have e95 : (byt s p == 95) = false := by simp [h95]
    have et : tokL s p = numT s p p false := by unfold tokL; rw [if_neg h95, if_pos (by simpa [h95] using hd)]
    rw [et]
    simp -implicitDefEqProofs only [kz, kk0, kk1, kk2, kk3, ↓two_true, ↓two_false, oS_some, oM_some, mkv, aggAt, Nat.reduceLeDiff, Nat.reduceSub, Nat.reduceMul, implies_true, Nat.reduceEqDiff, reduceIte, Nat.reduceAdd, Nat.reduceBEq, reduceCtorEq, cv5_3, (idx_str us9), Int.toNat_natCast, e95, l8Digit_eq (p := p) (by omega) hs]
    refine ⟨by omega, ?_⟩
    refine two_intro (fun hq => ?_) (fun hq => ?_)
    · have hst := digE_stop (s := s) (f := s.size) (n := 0) (p := p) (fun h => by simp [h.1, h.2] at hq)
      have hlast : numT s p (p) false = (0, 0, p, 8) := by unfold numT; rw [hst, if_pos rfl]
      rw [hlast]
      exact ⟨_, rfl, fun h => by simp at h⟩
    · have hq' : p < s.size ∧ isDg (byt s (p)) = true := by simpa using hq
      refine rW_loop (σ := Nat × Nat × Int) (fun (f, e, n) tm H' => tm 0 = .string s ∧ tm 1 = .int .i64 e ∧ tm 7 = .bool false ∧ tm 8 = .int .i64 n ∧ H' = H ∧ s.size - e ≤ f ∧ p ≤ e ∧ e ≤ s.size ∧ 0 ≤ n ∧ n ≤ 1000000000001 ∧ digE s s.size (p) 0 = digE s f e n) (fun x => s.size - x.2.1) (s.size, p, 0) ?_ ?_
      · simp -implicitDefEqProofs [kk0, kk1, kk2, kk3, rW_block, ↓two_true, ↓two_false, rW_cond, rO_guard, oS_some, oM_some, mkv, aggAt, Nat.reduceLeDiff, Nat.reduceSub, Nat.reduceMul, cond_true, cond_false, Option.bind_some, List.length_append, List.length_cons, List.length_nil, List.append_assoc, List.cons_append, List.nil_append, List.set_cons_zero, List.set_cons_succ, List.size_toArray, List.all_cons, List.all_nil, List.drop_zero, List.drop_succ_cons, List.take_succ_cons, List.take_zero, List.mem_cons, Prod.mk.injEq, List.not_mem_nil, implies_true, List.getElem?_toArray, List.getElem?_cons_zero, List.getElem?_cons_succ, List.getElem?_nil, Option.getD_some, Option.getD_none, Nat.reduceEqDiff, reduceIte, Nat.reduceAdd, List.map_toArray, List.map_cons, List.map_nil, Bool.false_eq_true, Nat.reduceBEq, Option.map_some, Option.map_none, reduceCtorEq, cv5_3, (idx_str us9)]
        omega
      · rintro ⟨f, e, n⟩ tm H' ⟨h0, h1, h7, h8, rfl, hf, hqe, hes, hn0, hn1, hd⟩
        by_cases hc : e < s.size ∧ isDg (byt s e) = true
        · have d1 : (decide (e < s.size) && isDg (byt s e)) = true := by simp [hc.1, hc.2]
          have hb : 48 ≤ byt s e ∧ byt s e ≤ 57 := by simpa [isDg] using hc.2
          obtain ⟨f', hf', hgo⟩ := digE_go (n := n) hc.1 hc.2 hf
          simp -implicitDefEqProofs only [kz, kk0, kk1, kk2, kk3, ↓two_true, ↓two_false, oS_some, oM_some, mkv, aggAt, Nat.reduceLeDiff, Nat.reduceSub, Nat.reduceMul, implies_true, Nat.reduceEqDiff, reduceIte, Nat.reduceAdd, Nat.reduceBEq, reduceCtorEq, cv5_3, (idx_str us9), h0, h1, h7, h8, l8Digit_eq hes hs, l1Min_eq, specNumOk_eq, Int.toNat_natCast, d1, IntWalk.i64_in (byt s e) (by omega), IntWalk.i64_in (10 * n) (by omega), IntWalk.i64_in (10 * n + byt s e) (by omega), IntWalk.i64_in (10 * n + byt s e - 48) (by omega), IntWalk.i64_in ((e : Int) + 1) (by omega)]
          refine ⟨by omega, (f', e + 1, min (10 * n + (byt s e - 48)) 1000000000001), by simp only; omega, ?_⟩
          exact ⟨by simp, by rw [min_if2, show 10 * n + byt s e - 48 = 10 * n + (byt s e - 48) by omega], by simp only; omega, by simp only; omega, by simp only; omega, by simp only; omega, by simp only; omega, by rw [hd, hgo]⟩
        · have hst := digE_stop (f := f) (n := n) hc
          rw [hst] at hd
          have hne : ¬ e = p := fun h => by subst h; exact hc hq'
          have hlast : numT s p (p) false = if 1000000000000 < n then (0, 0, p, 6) else (1, (if false then -n else n), e, 0) := by unfold numT; rw [hd, if_neg hne]
          rw [hlast]
          have d1 : (decide (e < s.size) && isDg (byt s e)) = false := by simpa using hc
          have wn : IntKind.i64.wrap (0 - n) = -n := by rw [IntWalk.i64_in _ (by omega)]; omega
          simp -implicitDefEqProofs only [kz, kk0, kk1, kk2, kk3, ↓two_true, ↓two_false, oS_some, oM_some, mkv, aggAt, Nat.reduceLeDiff, Nat.reduceSub, Nat.reduceMul, implies_true, Nat.reduceEqDiff, reduceIte, Nat.reduceAdd, Nat.reduceBEq, reduceCtorEq, cv5_3, (idx_str us9), h0, h1, h7, h8, l8Digit_eq hes hs, l1Min_eq, specNumOk_eq, Int.toNat_natCast, d1, wn]
          refine two_intro (fun h2 => ?_) (fun h2 => ?_)
          · rw [if_pos (by have : numOk n = false := by simpa using h2
                           simp [numOk, inB] at this; omega)]
            exact ⟨_, rfl, fun h => by simp at h⟩
          · rw [if_neg (by have : numOk n = true := by simpa using h2
                           simp [numOk, inB] at this; omega)]
            exact ⟨_, rfl, fun _ => rfl⟩

theorem numT_one {s : ByteArray} {p q : Nat} {neg : Bool} (hc : (numT s p q neg).2.2.2 = 0) : (numT s p q neg).1 = 1 := by
  unfold numT at hc ⊢
  by_cases h1 : (digE s s.size q 0).2 = q
  · rw [if_pos h1] at hc; simp at hc
  · rw [if_neg h1] at hc ⊢
    by_cases h2 : 1000000000000 < (digE s s.size q 0).1
    · rw [if_pos h2] at hc; simp at hc
    · rw [if_neg h2]
theorem tokL_neg {s : ByteArray} {p : Nat} (h1 : byt s p ≠ 95) (h2 : isDg (byt s p) = false) : tokL s p =
    if 65 ≤ byt s p ∧ byt s p ≤ 90 then (2, byt s p - 65, p + 1, 0)
    else if byt s p = 40 then (4, 0, p + 1, 0) else if byt s p = 41 then (5, 0, p + 1, 0) else if byt s p = 58 then (6, 0, p + 1, 0)
    else if hasS tkSigns (byt s p) = true then (3, byt s p, p + 1, 0) else (0, 0, p, 8) := by
  unfold tokL; rw [if_neg h1, if_neg (by simp [h2])]

theorem oA_tok {H0 H : AH} {B : Blk} {v : Value} {n : Nat} {xs : List Value} {k w : Int} {Φ : Value → AH → Prop} (h : New H0 H v kToken n xs) (he : ∃ K, H = H0 ++ K) (hl : n + 1 ≤ 1073741824)
    (hk : ∀ b H', New H0 H' (.slice (some ⟨b, 0, none⟩) (n + 1) 2) kToken (n + 1) (xs ++ [.int .i64 k, .int .i64 w]) → (∃ K, H' = H0 ++ K) → cvs H' (xs ++ [.int .i64 k, .int .i64 w]) = cvs H xs ++ [.i k, .i w] → Φ (.slice (some ⟨b, 0, none⟩) (n + 1) 2) H') :
    oA (app 2 v (.slice (some ⟨H.length + 1, 0, none⟩) 1 2) (H ++ [B, ⟨[.int .i64 k, .int .i64 w], .own⟩])) Φ := by
  have e : (H ++ [B, ⟨[.int .i64 k, .int .i64 w], .own⟩] : AH) = (H ++ [B]) ++ [⟨[.int .i64 k, .int .i64 w], .own⟩] := by simp
  have e2 : H.length + 1 = (H ++ [B]).length := by simp
  rw [e, e2]
  refine oA_newn 2 rfl h ⟨_, rfl⟩ ⟨_, _, rfl, ⟨_, rfl⟩, _, _, rfl, ⟨_, rfl⟩, rfl⟩ ?_ ?_ ?_ (ext_len he) hl fun b' H3 f3 x3 v3 => hk b' H3 f3 (x3.ext (app_ext he) h.blk) (by rw [v3]; simp [cv])
  · simp [OwnC]
  · simp [blkOf]
  · exact pw_get (by simp [Dj, blkOf])
set_option maxHeartbeats 4000000 in
theorem specLex_ok {s : ByteArray} (hs : s.size ≤ 1048576) {H : AH} : CallsA Try.prog 10 #[.string s] H fun r H' => (∃ a c ys, r = .tuple #[.slice a (lexA s).1.length c, .int .i64 (lexA s).2.1, .int .i64 ((lexA s).2.2 : Nat)] ∧ New H H' (.slice a (lexA s).1.length c) kToken (lexA s).1.length ys ∧ cvs H' ys = tokV (lexA s).1) ∧ ∃ K, H' = H ++ K := by
  refine w10 ?_
  unfold k10
  simp -implicitDefEqProofs only [kz, kk0, kk1, kk2, kk3, ↓two_true, ↓two_false, oS_some, oM_some, mkv, aggAt, Nat.reduceLeDiff, Nat.reduceSub, Nat.reduceMul, implies_true, Nat.reduceEqDiff, reduceIte, Nat.reduceAdd, Nat.reduceBEq, reduceCtorEq, al54, ap25_25, bd54, bs25_0, bs25_1, cv5_3, fa54_0, (idx_str us9), ld54, ln9, st3, st54]
  refine two_intro (fun h1 => ?_) (fun h1 => ?_)
  · have e : lexA s = ([], 6, 0) := by unfold lexA; rw [if_pos (by have := of_decide_eq_true h1; omega)]
    rw [e]
    exact ⟨⟨_, _, [], rfl, New.at0n (ks := kToken) rfl (by rw [gt0]; rfl) (Nat.le_refl _), rfl⟩, _, rfl⟩
  · have e : lexA s = lexE s s.size 0 [] := by unfold lexA; rw [if_neg (by have := of_decide_eq_false h1; omega)]
    rw [e]
    have hsz : s.size ≤ 300 := by have := of_decide_eq_false h1; omega
    refine rW_loop (σ := Nat × Nat × List (Int × Int) × Option Addr × Nat × List Value) (fun (f, p, acc, a, c, ys) tm H' => tm 0 = .string s ∧ tm 5 = .slice a acc.length c ∧ tm 6 = .int .i64 p ∧ s.size - p ≤ f ∧ p ≤ s.size ∧ acc.length ≤ p ∧ New H H' (.slice a acc.length c) kToken acc.length ys ∧ cvs H' ys = tokV acc ∧ (∃ K, H' = H ++ K) ∧ lexE s s.size 0 [] = lexE s f p acc) (fun x => s.size - x.2.1) (s.size, 0, [], some ⟨H.length, 0, none⟩, 2, []) ?_ ?_
    · simp -implicitDefEqProofs [kk0, kk1, kk2, kk3, rW_block, ↓two_true, ↓two_false, rW_cond, rO_guard, oS_some, oM_some, mkv, aggAt, Nat.reduceLeDiff, Nat.reduceSub, Nat.reduceMul, cond_true, cond_false, Option.bind_some, List.length_append, List.length_cons, List.length_nil, List.append_assoc, List.cons_append, List.nil_append, List.set_cons_zero, List.set_cons_succ, List.size_toArray, List.all_cons, List.all_nil, List.drop_zero, List.drop_succ_cons, List.take_succ_cons, List.take_zero, List.mem_cons, Prod.mk.injEq, List.not_mem_nil, implies_true, List.getElem?_toArray, List.getElem?_cons_zero, List.getElem?_cons_succ, List.getElem?_nil, Option.getD_some, Option.getD_none, Nat.reduceEqDiff, reduceIte, Nat.reduceAdd, List.map_toArray, List.map_cons, List.map_nil, Bool.false_eq_true, Nat.reduceBEq, Option.map_some, Option.map_none, reduceCtorEq, al54, ap25_25, bd54, bs25_0, bs25_1, cv5_3, fa54_0, (idx_str us9), ld54, ln9, st3, st54]
      exact ⟨New.at0n (ks := kToken) rfl (by rw [gt0]; rfl) (Nat.le_refl _), rfl⟩
    · rintro ⟨f, p, acc, a, c, ys⟩ tm H1 ⟨h0, h5, h6, hf, hp, hap, hn, hc, he, hL⟩
      by_cases hlt : p < s.size
      · obtain ⟨f', hf', hgo⟩ := lexE_go (acc := acc) hlt hf
        have wp : IntKind.i64.wrap ((p : Int) + 1) = ((p + 1 : Nat) : Int) := by rw [IntWalk.i64_in _ (by omega)]; omega
        have hb := byt_range s p
        have wc : IntKind.i64.wrap (byt s p) = byt s p := IntWalk.i64_in _ (by omega)
        have dlt : decide ((p : Int) < s.size) = true := decide_eq_true (by omega)
        have dlt2 : decide (p < s.size) = true := decide_eq_true hlt
        have el := fun (L : AH) Φ => l8Digit_eq (s := s) (p := p) hp hs (H := H1 ++ L) (Φ := Φ)
        rw [hgo] at hL
        by_cases h32 : byt s p = 32
        · have e32 : (byt s p == 32) = true := by simp [h32]
          rw [if_pos h32] at hL
          simp -implicitDefEqProofs only [kz, kk0, kk1, kk2, kk3, ↓two_true, ↓two_false, oS_some, oM_some, mkv, aggAt, Nat.reduceLeDiff, Nat.reduceSub, Nat.reduceMul, implies_true, Nat.reduceEqDiff, reduceIte, Nat.reduceAdd, Nat.reduceBEq, reduceCtorEq, al54, ap25_25, bd54, bs25_0, bs25_1, cv5_3, fa54_0, (idx_str us9), ld54, ln9, st3, st54, h0, h5, h6, Int.toNat_natCast, dlt, wc, wp, e32]
          exact ⟨by omega, (f', p + 1, acc, a, c, ys), by simp only; omega, rfl, rfl, hf', hlt, by simp only; omega, hn.mono, by rw [← hc]; exact hn.ot.frow.vals, app_ext he, hL⟩
        · have e32 : (byt s p == 32) = false := by simp [h32]
          rw [if_neg h32] at hL
          by_cases hd : isDg (byt s p) = true ∨ byt s p = 95
          · have cond : (decide (p < s.size) && isDg (byt s p)) = true ∨ (byt s p == 95) = true := by rcases hd with h | h; exact .inl (by simp [hlt, h]); exact .inr (by simp [h])
            have hk : (tokL s p).2.2.2 = 0 → (tokL s p).1 = 1 := fun h => by
              by_cases h95 : byt s p = 95
              · have et : tokL s p = numT s p (p + 1) true := by unfold tokL; rw [if_pos h95]
                rw [et] at h ⊢; exact numT_one h
              · have et : tokL s p = numT s p p false := by unfold tokL; rw [if_neg h95, if_pos (by simpa [h95] using hd)]
                rw [et] at h ⊢; exact numT_one h
            by_cases hg : isDg (byt s p) = true
            · simp -implicitDefEqProofs only [kz, kk0, kk1, kk2, kk3, ↓two_true, ↓two_false, oS_some, oM_some, mkv, aggAt, Nat.reduceLeDiff, Nat.reduceSub, Nat.reduceMul, implies_true, Nat.reduceEqDiff, reduceIte, Nat.reduceAdd, Nat.reduceBEq, reduceCtorEq, al54, ap25_25, bd54, bs25_0, bs25_1, cv5_3, fa54_0, (idx_str us9), ld54, ln9, st3, st54, h0, h5, h6, Int.toNat_natCast, dlt, dlt2, wc, wp, e32, el, hg, Bool.and_true]
              refine ⟨by omega, (l8Num_ok hlt hs hd).mono ?_⟩
              rintro _ H2 ⟨⟨q, rfl, hq⟩, rfl⟩
              simp -implicitDefEqProofs only [kz, kk0, kk1, kk2, kk3, ↓two_true, ↓two_false, oS_some, oM_some, mkv, aggAt, Nat.reduceLeDiff, Nat.reduceSub, Nat.reduceMul, implies_true, Nat.reduceEqDiff, reduceIte, Nat.reduceAdd, Nat.reduceBEq, reduceCtorEq, al54, ap25_25, bd54, bs25_0, bs25_1, cv5_3, fa54_0, (idx_str us9), ld54, ln9, st3, st54, h0, h5, h6]
              refine two_intro (fun h2 => ?_) (fun h2 => ?_)
              · rw [if_pos (by simpa using h2)] at hL
                rw [hL]
                exact ⟨⟨_, _, [], rfl, New.at0n (ks := kToken) rfl (by rw [gti]; rfl) (by have := ext_len he; omega), rfl⟩, app_ext he⟩
              · have h0c : (tokL s p).2.2.2 = 0 := by simpa using h2
                rw [if_neg (by simpa using h2), hk h0c] at hL
                have hnx := tokL_next hlt h0c
                obtain rfl := hq h0c
                refine oA_tok hn he (by omega) fun b3 H3 f3 he3 v3 => ?_
                simp -implicitDefEqProofs only [kz, kk0, kk1, kk2, kk3, ↓two_true, ↓two_false, oS_some, oM_some, mkv, aggAt, Nat.reduceLeDiff, Nat.reduceSub, Nat.reduceMul, implies_true, Nat.reduceEqDiff, reduceIte, Nat.reduceAdd, Nat.reduceBEq, reduceCtorEq, al54, ap25_25, bd54, bs25_0, bs25_1, cv5_3, fa54_0, (idx_str us9), ld54, ln9, st3, st54, h0, h5, h6]
                exact ⟨(f', (tokL s p).2.2.1, acc ++ [(1, (tokL s p).2.1)], some ⟨b3, 0, none⟩, 2, ys ++ [.int .i64 (1), .int .i64 ((tokL s p).2.1)]), by simp only; omega, by simp only [List.length_append, List.length_cons, List.length_nil, Nat.zero_add], rfl, by simp only; omega, by simp only; omega, by simp only [List.length_append, List.length_cons, List.length_nil]; omega, by simpa using f3, by rw [v3, hc, tokV_snoc], he3, hL⟩
            · have hg' : isDg (byt s p) = false := by simpa using hg
              have e95 : (byt s p == 95) = true := by simpa [hg] using hd
              simp -implicitDefEqProofs only [kz, kk0, kk1, kk2, kk3, ↓two_true, ↓two_false, oS_some, oM_some, mkv, aggAt, Nat.reduceLeDiff, Nat.reduceSub, Nat.reduceMul, implies_true, Nat.reduceEqDiff, reduceIte, Nat.reduceAdd, Nat.reduceBEq, reduceCtorEq, al54, ap25_25, bd54, bs25_0, bs25_1, cv5_3, fa54_0, (idx_str us9), ld54, ln9, st3, st54, h0, h5, h6, Int.toNat_natCast, dlt, dlt2, wc, wp, e32, el, hg', e95, Bool.and_false]
              refine ⟨by omega, (l8Num_ok hlt hs hd).mono ?_⟩
              rintro _ H2 ⟨⟨q, rfl, hq⟩, rfl⟩
              simp -implicitDefEqProofs only [kz, kk0, kk1, kk2, kk3, ↓two_true, ↓two_false, oS_some, oM_some, mkv, aggAt, Nat.reduceLeDiff, Nat.reduceSub, Nat.reduceMul, implies_true, Nat.reduceEqDiff, reduceIte, Nat.reduceAdd, Nat.reduceBEq, reduceCtorEq, al54, ap25_25, bd54, bs25_0, bs25_1, cv5_3, fa54_0, (idx_str us9), ld54, ln9, st3, st54, h0, h5, h6]
              refine two_intro (fun h2 => ?_) (fun h2 => ?_)
              · rw [if_pos (by simpa using h2)] at hL
                rw [hL]
                exact ⟨⟨_, _, [], rfl, New.at0n (ks := kToken) rfl (by rw [gti]; rfl) (by have := ext_len he; omega), rfl⟩, app_ext he⟩
              · have h0c : (tokL s p).2.2.2 = 0 := by simpa using h2
                rw [if_neg (by simpa using h2), hk h0c] at hL
                have hnx := tokL_next hlt h0c
                obtain rfl := hq h0c
                refine oA_tok hn he (by omega) fun b3 H3 f3 he3 v3 => ?_
                simp -implicitDefEqProofs only [kz, kk0, kk1, kk2, kk3, ↓two_true, ↓two_false, oS_some, oM_some, mkv, aggAt, Nat.reduceLeDiff, Nat.reduceSub, Nat.reduceMul, implies_true, Nat.reduceEqDiff, reduceIte, Nat.reduceAdd, Nat.reduceBEq, reduceCtorEq, al54, ap25_25, bd54, bs25_0, bs25_1, cv5_3, fa54_0, (idx_str us9), ld54, ln9, st3, st54, h0, h5, h6]
                exact ⟨(f', (tokL s p).2.2.1, acc ++ [(1, (tokL s p).2.1)], some ⟨b3, 0, none⟩, 2, ys ++ [.int .i64 (1), .int .i64 ((tokL s p).2.1)]), by simp only; omega, by simp only [List.length_append, List.length_cons, List.length_nil, Nat.zero_add], rfl, by simp only; omega, by simp only; omega, by simp only [List.length_append, List.length_cons, List.length_nil]; omega, by simpa using f3, by rw [v3, hc, tokV_snoc], he3, hL⟩
          · have h95 : byt s p ≠ 95 := fun h => hd (.inr h)
            have hg : isDg (byt s p) = false := by cases h : isDg (byt s p); rfl; exact absurd (.inl h) hd
            have e95 : (byt s p == 95) = false := by simp [h95]
            rw [tokL_neg h95 hg] at hL
            simp -implicitDefEqProofs only [kz, kk0, kk1, kk2, kk3, ↓two_true, ↓two_false, oS_some, oM_some, mkv, aggAt, Nat.reduceLeDiff, Nat.reduceSub, Nat.reduceMul, implies_true, Nat.reduceEqDiff, reduceIte, Nat.reduceAdd, Nat.reduceBEq, reduceCtorEq, al54, ap25_25, bd54, bs25_0, bs25_1, cv5_3, fa54_0, (idx_str us9), ld54, ln9, st3, st54, h0, h5, h6, Int.toNat_natCast, dlt, dlt2, wc, wp, e32, el, hg, e95, Bool.and_false, Bool.true_and, l1In_eq, l8Sign_eq]
            refine ⟨by omega, two_intro (fun a1 => ?_) (fun a1 => ?_)⟩
            · have a3 : 65 ≤ byt s p ∧ byt s p ≤ 90 := by simpa [inB] using a1
              have hL2 : lexE s s.size 0 [] = lexE s f' (p + 1) (acc ++ [(2, byt s p - 65)]) := by rw [hL, if_pos a3]; exact if_neg (by simp)
              rw [IntWalk.i64_in (byt s p - 65) (by omega)]
              refine oA_tok hn he (by omega) fun b3 H3 f3 he3 v3 => ?_
              simp -implicitDefEqProofs only [kz, kk0, kk1, kk2, kk3, ↓two_true, ↓two_false, oS_some, oM_some, mkv, aggAt, Nat.reduceLeDiff, Nat.reduceSub, Nat.reduceMul, implies_true, Nat.reduceEqDiff, reduceIte, Nat.reduceAdd, Nat.reduceBEq, reduceCtorEq, al54, ap25_25, bd54, bs25_0, bs25_1, cv5_3, fa54_0, (idx_str us9), ld54, ln9, st3, st54, h0, h5, h6]
              exact ⟨(f', p + 1, acc ++ [(2, byt s p - 65)], some ⟨b3, 0, none⟩, 2, ys ++ [.int .i64 (2), .int .i64 (byt s p - 65)]), by simp only; omega, by simp only [List.length_append, List.length_cons, List.length_nil, Nat.zero_add], rfl, by simp only; omega, by simp only; omega, by simp only [List.length_append, List.length_cons, List.length_nil]; omega, by simpa using f3, by rw [v3, hc, tokV_snoc], he3, hL2⟩
            · rw [if_neg (show ¬ (65 ≤ byt s p ∧ byt s p ≤ 90) from fun h => by simp [inB, h.1, h.2] at a1)] at hL
              refine two_intro (fun b1 => ?_) (fun b1 => ?_)
              · have hL2 : lexE s s.size 0 [] = lexE s f' (p + 1) (acc ++ [(4, 0)]) := by rw [hL, if_pos (eq_of_beq b1)]; exact if_neg (by simp)
                refine oA_tok hn he (by omega) fun b3 H3 f3 he3 v3 => ?_
                simp -implicitDefEqProofs only [kz, kk0, kk1, kk2, kk3, ↓two_true, ↓two_false, oS_some, oM_some, mkv, aggAt, Nat.reduceLeDiff, Nat.reduceSub, Nat.reduceMul, implies_true, Nat.reduceEqDiff, reduceIte, Nat.reduceAdd, Nat.reduceBEq, reduceCtorEq, al54, ap25_25, bd54, bs25_0, bs25_1, cv5_3, fa54_0, (idx_str us9), ld54, ln9, st3, st54, h0, h5, h6]
                exact ⟨(f', p + 1, acc ++ [(4, 0)], some ⟨b3, 0, none⟩, 2, ys ++ [.int .i64 (4), .int .i64 (0)]), by simp only; omega, by simp only [List.length_append, List.length_cons, List.length_nil, Nat.zero_add], rfl, by simp only; omega, by simp only; omega, by simp only [List.length_append, List.length_cons, List.length_nil]; omega, by simpa using f3, by rw [v3, hc, tokV_snoc], he3, hL2⟩
              rw [if_neg (beq_eq_false_iff_ne.1 b1)] at hL
              refine two_intro (fun b1 => ?_) (fun b1 => ?_)
              · have hL2 : lexE s s.size 0 [] = lexE s f' (p + 1) (acc ++ [(5, 0)]) := by rw [hL, if_pos (eq_of_beq b1)]; exact if_neg (by simp)
                refine oA_tok hn he (by omega) fun b3 H3 f3 he3 v3 => ?_
                simp -implicitDefEqProofs only [kz, kk0, kk1, kk2, kk3, ↓two_true, ↓two_false, oS_some, oM_some, mkv, aggAt, Nat.reduceLeDiff, Nat.reduceSub, Nat.reduceMul, implies_true, Nat.reduceEqDiff, reduceIte, Nat.reduceAdd, Nat.reduceBEq, reduceCtorEq, al54, ap25_25, bd54, bs25_0, bs25_1, cv5_3, fa54_0, (idx_str us9), ld54, ln9, st3, st54, h0, h5, h6]
                exact ⟨(f', p + 1, acc ++ [(5, 0)], some ⟨b3, 0, none⟩, 2, ys ++ [.int .i64 (5), .int .i64 (0)]), by simp only; omega, by simp only [List.length_append, List.length_cons, List.length_nil, Nat.zero_add], rfl, by simp only; omega, by simp only; omega, by simp only [List.length_append, List.length_cons, List.length_nil]; omega, by simpa using f3, by rw [v3, hc, tokV_snoc], he3, hL2⟩
              rw [if_neg (beq_eq_false_iff_ne.1 b1)] at hL
              refine two_intro (fun b1 => ?_) (fun b1 => ?_)
              · have hL2 : lexE s s.size 0 [] = lexE s f' (p + 1) (acc ++ [(6, 0)]) := by rw [hL, if_pos (eq_of_beq b1)]; exact if_neg (by simp)
                refine oA_tok hn he (by omega) fun b3 H3 f3 he3 v3 => ?_
                simp -implicitDefEqProofs only [kz, kk0, kk1, kk2, kk3, ↓two_true, ↓two_false, oS_some, oM_some, mkv, aggAt, Nat.reduceLeDiff, Nat.reduceSub, Nat.reduceMul, implies_true, Nat.reduceEqDiff, reduceIte, Nat.reduceAdd, Nat.reduceBEq, reduceCtorEq, al54, ap25_25, bd54, bs25_0, bs25_1, cv5_3, fa54_0, (idx_str us9), ld54, ln9, st3, st54, h0, h5, h6]
                exact ⟨(f', p + 1, acc ++ [(6, 0)], some ⟨b3, 0, none⟩, 2, ys ++ [.int .i64 (6), .int .i64 (0)]), by simp only; omega, by simp only [List.length_append, List.length_cons, List.length_nil, Nat.zero_add], rfl, by simp only; omega, by simp only; omega, by simp only [List.length_append, List.length_cons, List.length_nil]; omega, by simpa using f3, by rw [v3, hc, tokV_snoc], he3, hL2⟩
              rw [if_neg (beq_eq_false_iff_ne.1 b1)] at hL
              refine two_intro (fun b1 => ?_) (fun b1 => ?_)
              · have hL2 : lexE s s.size 0 [] = lexE s f' (p + 1) (acc ++ [(3, byt s p)]) := by rw [hL, if_pos b1]; exact if_neg (by simp)
                refine oA_tok hn he (by omega) fun b3 H3 f3 he3 v3 => ?_
                simp -implicitDefEqProofs only [kz, kk0, kk1, kk2, kk3, ↓two_true, ↓two_false, oS_some, oM_some, mkv, aggAt, Nat.reduceLeDiff, Nat.reduceSub, Nat.reduceMul, implies_true, Nat.reduceEqDiff, reduceIte, Nat.reduceAdd, Nat.reduceBEq, reduceCtorEq, al54, ap25_25, bd54, bs25_0, bs25_1, cv5_3, fa54_0, (idx_str us9), ld54, ln9, st3, st54, h0, h5, h6]
                exact ⟨(f', p + 1, acc ++ [(3, byt s p)], some ⟨b3, 0, none⟩, 2, ys ++ [.int .i64 (3), .int .i64 (byt s p)]), by simp only; omega, by simp only [List.length_append, List.length_cons, List.length_nil, Nat.zero_add], rfl, by simp only; omega, by simp only; omega, by simp only [List.length_append, List.length_cons, List.length_nil]; omega, by simpa using f3, by rw [v3, hc, tokV_snoc], he3, hL2⟩
              have hL2 : lexE s s.size 0 [] = ([], 8, p) := by rw [hL, if_neg (show ¬ hasS tkSigns (byt s p) = true by rw [b1]; exact Bool.false_ne_true)]; exact if_pos (show (8 : Int) ≠ 0 by decide)
              rw [hL2]
              exact ⟨⟨_, _, [], rfl, New.at0n (ks := kToken) rfl (by rw [gti]; rfl) (by have := ext_len he; omega), rfl⟩, app_ext he⟩
      · have dlt : decide ((p : Int) < s.size) = false := decide_eq_false (by omega)
        rw [lexE_stop hlt] at hL
        rw [hL]
        simp -implicitDefEqProofs only [kz, kk0, kk1, kk2, kk3, ↓two_true, ↓two_false, oS_some, oM_some, mkv, aggAt, Nat.reduceLeDiff, Nat.reduceSub, Nat.reduceMul, implies_true, Nat.reduceEqDiff, reduceIte, Nat.reduceAdd, Nat.reduceBEq, reduceCtorEq, al54, ap25_25, bd54, bs25_0, bs25_1, cv5_3, fa54_0, (idx_str us9), ld54, ln9, st3, st54, h0, h5, h6, dlt]
        exact ⟨⟨a, c, ys, rfl, hn, hc⟩, he⟩
theorem lexE_len {s : ByteArray} : ∀ (f p : Nat) (acc : List (Int × Int)), (lexE s f p acc).1.length ≤ acc.length + f
  | 0, p, acc => by simp [lexE]
  | f + 1, p, acc => by
    unfold lexE
    split
    · split
      · have := lexE_len (s := s) f (p + 1) acc; omega
      · split
        · simp
        · have := lexE_len (s := s) f (tokL s p).2.2.1 (acc ++ [((tokL s p).1, (tokL s p).2.1)])
          simp at this; omega
    · simp
theorem lexA_len {s : ByteArray} : (lexA s).1.length ≤ 300 := by
  unfold lexA
  split
  · simp
  · have := lexE_len (s := s) s.size 0 []; simp at this; omega
def cpI (x : Nd) : List CV := [.i x.k, .i (if x.k = 2 ∨ x.k = 3 then x.a else 0), .i x.s, .i x.o, .i x.w, .r x.nums]
def cpV (l : List Nd) : List CV := l.flatMap cpI
theorem cpV_snoc {l : List Nd} {x : Nd} : cpV (l ++ [x]) = cpV l ++ cpI x := by simp [cpV]
theorem oA_ins0 {H0 H1 H : AH} {v : Value} {n : Nat} {xs : List Value} {k a s o w : Int} {p : Value} {m : List Int} {Φ : Value → AH → Prop} (h : New H0 H1 v kInstr n xs) (he : ∃ K, H = H1 ++ K) (h0 : ∃ K, H1 = H0 ++ K) (hp : OwnRow H p m)
    (hpf : ∀ b, blkOf p = some b → H1.length ≤ b) (hm : m.length < 1073741825) (hl : n + 1 ≤ 1073741824)
    (hk : ∀ b H', New H0 H' (.slice (some ⟨b, 0, none⟩) (n + 1) 6) kInstr (n + 1) (xs ++ [.int .i64 k, .int .i64 a, .int .i64 s, .int .i64 o, .int .i64 w, p]) → (∃ K, H' = H0 ++ K) →
      cvs H' (xs ++ [.int .i64 k, .int .i64 a, .int .i64 s, .int .i64 o, .int .i64 w, p]) = cvs H1 xs ++ [.i k, .i a, .i s, .i o, .i w, .r m] → Φ (.slice (some ⟨b, 0, none⟩) (n + 1) 6) H') :
    oA (app 6 v (.slice (some ⟨H.length, 0, none⟩) 1 6) (H ++ [⟨[.int .i64 k, .int .i64 a, .int .i64 s, .int .i64 o, .int .i64 w, p], .own⟩])) Φ := by
  have r1 := hp.kok hm
  obtain ⟨a', c', ep⟩ := hp.isSlice
  subst ep
  refine oA_newn 6 rfl h he ⟨_, _, rfl, ⟨_, rfl⟩, _, _, rfl, ⟨_, rfl⟩, _, _, rfl, ⟨_, rfl⟩, _, _, rfl, ⟨_, rfl⟩, _, _, rfl, ⟨_, rfl⟩, _, _, rfl, r1.1, rfl⟩ ?_ ?_ ?_ (ext_len h0) hl fun b' H3 f3 x3 v3 => hk b' H3 f3 (x3.ext (ext_trans h0 he) h.blk) ?_
  · simp only [List.forall_mem_cons, List.not_mem_nil, false_implies, implies_true, and_true]
    exact ⟨.inl ⟨_, rfl⟩, .inl ⟨_, rfl⟩, .inl ⟨_, rfl⟩, .inl ⟨_, rfl⟩, .inl ⟨_, rfl⟩, r1.2.1⟩
  · simp only [List.forall_mem_cons, List.not_mem_nil, false_implies, implies_true, and_true]
    exact ⟨fun b hb => by simp [blkOf] at hb, fun b hb => by simp [blkOf] at hb, fun b hb => by simp [blkOf] at hb, fun b hb => by simp [blkOf] at hb, fun b hb => by simp [blkOf] at hb, hpf⟩
  · exact pw_get (by simp [Dj, blkOf])
  · rw [v3]
    simp only [List.map_cons, List.map_nil, r1.2.2, cv_int]
theorem oA_ins {H0 H1 H : AH} {B : Blk} {v : Value} {n : Nat} {xs : List Value} {k a s o w : Int} {p : Value} {m : List Int} {Φ : Value → AH → Prop} (h : New H0 H1 v kInstr n xs) (he : ∃ K, H = H1 ++ K) (h0 : ∃ K, H1 = H0 ++ K) (hp : OwnRow H p m)
    (hpf : ∀ b, blkOf p = some b → H1.length ≤ b) (hm : m.length < 1073741825) (hl : n + 1 ≤ 1073741824)
    (hk : ∀ b H', New H0 H' (.slice (some ⟨b, 0, none⟩) (n + 1) 6) kInstr (n + 1) (xs ++ [.int .i64 k, .int .i64 a, .int .i64 s, .int .i64 o, .int .i64 w, p]) → (∃ K, H' = H0 ++ K) →
      cvs H' (xs ++ [.int .i64 k, .int .i64 a, .int .i64 s, .int .i64 o, .int .i64 w, p]) = cvs H1 xs ++ [.i k, .i a, .i s, .i o, .i w, .r m] → Φ (.slice (some ⟨b, 0, none⟩) (n + 1) 6) H') :
    oA (app 6 v (.slice (some ⟨H.length + 1, 0, none⟩) 1 6) (H ++ [B, ⟨[.int .i64 k, .int .i64 a, .int .i64 s, .int .i64 o, .int .i64 w, p], .own⟩])) Φ := by
  have e : (H ++ [B, ⟨[.int .i64 k, .int .i64 a, .int .i64 s, .int .i64 o, .int .i64 w, p], .own⟩] : AH) = (H ++ [B]) ++ [⟨[.int .i64 k, .int .i64 a, .int .i64 s, .int .i64 o, .int .i64 w, p], .own⟩] := by simp
  have e2 : H.length + 1 = (H ++ [B]).length := by simp
  rw [e, e2]
  exact oA_ins0 h (app_ext he) h0 hp.mono hpf hm hl hk

theorem cp_right {k a b s o w : Int} {m : List Int} (h : ndOk ⟨k, a, b, s, o, w, m⟩ = true) :
    (k = 1 ∧ cpI ⟨k, a, b, s, o, w, m⟩ = [.i 1, .i 0, .i 0, .i 0, .i 0, .r m]) ∨ (k = 2 ∧ cpI ⟨k, a, b, s, o, w, m⟩ = [.i 2, .i a, .i 0, .i 0, .i 0, .r []]) ∨
    (k = 3 ∧ cpI ⟨k, a, b, s, o, w, m⟩ = [.i 3, .i a, .i 0, .i 0, .i 0, .r []]) ∨ (k = 4 ∧ cpI ⟨k, a, b, s, o, w, m⟩ = [.i 4, .i 0, .i s, .i o, .i w, .r []]) ∨
    (k = 5 ∧ cpI ⟨k, a, b, s, o, w, m⟩ = [.i 5, .i 0, .i s, .i o, .i w, .r []]) := by
  have hk := ndOk_k h
  unfold ndOk at h
  simp only [Bool.or_eq_true, Bool.and_eq_true, beq_iff_eq] at h hk
  rcases hk with rfl | rfl | rfl | rfl | rfl
  · left; simp at h; simp [cpI, h.2]
  · right; left; simp at h; simp [cpI, h.2]
  · right; right; left; simp at h; simp [cpI, h.2]
  · right; right; right; left; simp at h; simp [cpI, h.2]
  · right; right; right; right; simp at h; simp [cpI, h.2]
set_option maxHeartbeats 4000000 in
theorem specCompile_ok {H : AH} {v : Value} {n : Nat} {xs : List Value} (hv : FRow H v kExpr n xs) (hl : n ≤ 1048576) :
    CallsA Try.prog 92 #[.agg #[v]] H fun r H' => (∃ a c m ys, r = .tuple #[.slice a m c, .bool (trOk (ndL (cvs H xs) n))] ∧ New H H' (.slice a m c) kInstr m ys ∧ cvs H' ys = (if trOk (ndL (cvs H xs) n) = true then cpV (ndL (cvs H xs) n) else []) ∧ m ≤ 60 ∧ (trOk (ndL (cvs H xs) n) = true → m = n)) ∧ ∃ K, H' = H ++ K := by
  have et := fun (L : AH) Φ => (specTreeOk_ok (hv.mono (L := L)) hl).eqV (Φ := Φ)
  simp only [hv.vals] at et
  obtain ⟨a, c, rfl, gv⟩ := hv.opn 7 rfl
  generalize hL : ndL (cvs H xs) n = l at *
  have hll : l.length = n := by rw [← hL, ndL_len]
  refine w92 ?_
  unfold k92
  simp -implicitDefEqProofs only [kz, kk0, kk1, kk2, kk3, ↓two_true, ↓two_false, oS_some, oM_some, mkv, aggAt, Nat.reduceLeDiff, Nat.reduceSub, Nat.reduceMul, implies_true, Nat.reduceEqDiff, reduceIte, Nat.reduceAdd, Nat.reduceBEq, reduceCtorEq, al77, ap29_29, ap64_64, bd66, bs29_0, bs29_1, bs64_0, fa39_0, fa77_0, fa77_1, fa77_3, fa77_4, ix37, ld3, ld37, ld39, ld63, ld64, ld77, ln37, st77, et]
  refine two_intro (fun h1 => ?_) (fun h1 => ?_)
  · have ht : trOk l = false := by simpa using h1
    rw [ht]
    exact ⟨⟨_, _, 0, [], rfl, New.at0n (ks := kInstr) rfl (by rw [gti]; rfl) (by omega), by simp [cvs], by omega, fun h => by cases h⟩, _, rfl⟩
  · have ht : trOk l = true := by simpa using h1
    rw [ht]
    have ht' := ht
    rw [trOk_eq hll] at ht'
    simp only [Bool.and_eq_true] at ht'
    have hb2 : 1 ≤ n ∧ n ≤ 60 := by have := ht'.1; simp [inB] at this; omega
    have hok := ht'.2.1
    clear ht'
    generalize hJ : jk Try.prog 22 #[.agg #[.slice a n c]] (H ++ [⟨[.slice a n c], .own⟩, ⟨[], .own⟩]) = J
    refine rW_loop (σ := Nat × Option Addr × Nat × List Value) (fun (i, a', c', ys) tm H' => tm 1 = .pointer (some ⟨H.length, 0, none⟩) ∧ tm 5 = .int .i64 i ∧ tm 4 = .slice a' i c' ∧ i ≤ n ∧ New (H ++ [⟨[.slice a n c], .own⟩]) H' (.slice a' i c') kInstr i ys ∧ cvs H' ys = cpV (l.take i) ∧ ∃ K, H' = (H ++ [⟨[.slice a n c], .own⟩]) ++ K) (fun s => n - s.1) (0, some ⟨H.length + 1, 0, none⟩, 6, []) ?_ ?_
    · simp -implicitDefEqProofs [kk0, kk1, kk2, kk3, rW_block, ↓two_true, ↓two_false, rW_cond, rO_guard, oS_some, oM_some, mkv, aggAt, Nat.reduceLeDiff, Nat.reduceSub, Nat.reduceMul, cond_true, cond_false, Option.bind_some, List.length_append, List.length_cons, List.length_nil, List.append_assoc, List.cons_append, List.nil_append, List.set_cons_zero, List.set_cons_succ, List.size_toArray, List.all_cons, List.all_nil, List.drop_zero, List.drop_succ_cons, List.take_succ_cons, List.take_zero, List.mem_cons, Prod.mk.injEq, List.not_mem_nil, implies_true, List.getElem?_toArray, List.getElem?_cons_zero, List.getElem?_cons_succ, List.getElem?_nil, Option.getD_some, Option.getD_none, Nat.reduceEqDiff, reduceIte, Nat.reduceAdd, List.map_toArray, List.map_cons, List.map_nil, Bool.false_eq_true, Nat.reduceBEq, Option.map_some, Option.map_none, reduceCtorEq, al77, ap29_29, ap64_64, bd66, bs29_0, bs29_1, bs64_0, fa39_0, fa77_0, fa77_1, fa77_3, fa77_4, ix37, ld3, ld37, ld39, ld63, ld64, ld77, ln37, st77]
      exact ⟨New.at0n (ks := kInstr) rfl (by rw [gti]; rfl) (by simp), rfl⟩
    · rintro ⟨i, a', c', ys⟩ tm H1 ⟨ht1, h5, h4, hi, hn, hc, he0⟩
      have g0 : rd H1 H.length = some [.slice a n c] := rd_ext (rd_own (by rw [gt0]; rfl)) he0
      have he : ∃ K, H1 = H ++ K := by obtain ⟨K, rfl⟩ := he0; exact ⟨_, List.append_assoc ..⟩
      simp -implicitDefEqProofs only [kz, kk0, kk1, kk2, kk3, ↓two_true, ↓two_false, oS_some, oM_some, mkv, aggAt, Nat.reduceLeDiff, Nat.reduceSub, Nat.reduceMul, implies_true, Nat.reduceEqDiff, reduceIte, Nat.reduceAdd, Nat.reduceBEq, reduceCtorEq, al77, ap29_29, ap64_64, bd66, bs29_0, bs29_1, bs64_0, fa39_0, fa77_0, fa77_1, fa77_3, fa77_4, ix37, ld3, ld37, ld39, ld63, ld64, ld77, ln37, st77, ht1, h5, h4, g0]
      refine two_intro (fun hc' => ?_) (fun hc' => ?_)
      · have hlt : i < n := by simpa using hc'
        obtain ⟨b, o, cs, rfl, rfl, hrd, hle, hcell⟩ := gv (by omega)
        have x1 := hv.elemn 7 rfl hlt
        have hin : l[i]? = some (ndOf ((elm 7 xs i).map (cv H))) := by rw [← hL]; exact ndL_get hlt
        have hio : ndOk (ndOf ((elm 7 xs i).map (cv H))) = true := (List.all_eq_true.1 hok) _ (List.mem_of_getElem? hin)
        have hlt2 : i < l.length := by omega
        have hing : l[i] = ndOf ((elm 7 xs i).map (cv H)) := by rw [List.getElem?_eq_getElem hlt2] at hin; exact Option.some.inj hin
        have hlen := ext_len he
        have g1 := rd_ext hrd he
        have l1 : ld Try.prog 77 (o + i * 7) cs = some (.agg (elm 7 xs i).toArray) := by rw [ld77]; exact (hcell _ hlt).1
        obtain ⟨x2, x3⟩ := x1.ext he
        obtain ⟨ek, ea, eb, es, eo, ew, y, ex, ky, ei⟩ := all2_expr x2
        rw [← x3, ei] at hing hio
        generalize elm 7 xs i = x at *
        subst ex
        obtain ⟨a5, c5, e5⟩ := ky.1.slice
        have hr : IntRow H1 y (rowI H1 y) := ky.1
        have hrl := ky.2
        generalize rowI H1 y = m at *
        subst e5
        have wi : IntKind.i64.wrap ((i : Int) + 1) = ((i + 1 : Nat) : Int) := by rw [IntWalk.i64_in _ (by omega)]; omega
        rcases cp_right hio with ⟨rfl, hcp⟩ | ⟨rfl, hcp⟩ | ⟨rfl, hcp⟩ | ⟨rfl, hcp⟩ | ⟨rfl, hcp⟩
        · simp -implicitDefEqProofs only [kz, kk0, kk1, kk2, kk3, ↓two_true, ↓two_false, oS_some, oM_some, mkv, aggAt, Nat.reduceLeDiff, Nat.reduceSub, Nat.reduceMul, implies_true, Nat.reduceEqDiff, reduceIte, Nat.reduceAdd, Nat.reduceBEq, reduceCtorEq, al77, ap29_29, ap64_64, bd66, bs29_0, bs29_1, bs64_0, fa39_0, fa77_0, fa77_1, fa77_3, fa77_4, ix37, ld3, ld37, ld39, ld63, ld64, ld77, ln37, st77, ht1, h5, h4, g0, Int.toNat_natCast, Nat.mul_one, g1, l1, Int.reduceBEq]
          refine ⟨by omega, oA_own (l := []) (.inr ⟨_, 0, [], rfl, by rw [gti]; rfl, by simp, by simp [ints]⟩) hr.mono (by simp; omega) fun a6 c6 H2 o6 x7 => ?_⟩
          simp only [List.length_nil, Nat.zero_add, List.nil_append] at o6 x7 ⊢
          obtain ⟨K2, hK2⟩ := x7.ext (H0 := H1) ⟨_, rfl⟩ (fun b hb => by simp [blkOf] at hb; omega)
          simp -implicitDefEqProofs only [kz, kk0, kk1, kk2, kk3, ↓two_true, ↓two_false, oS_some, oM_some, mkv, aggAt, Nat.reduceLeDiff, Nat.reduceSub, Nat.reduceMul, implies_true, Nat.reduceEqDiff, reduceIte, Nat.reduceAdd, Nat.reduceBEq, reduceCtorEq, al77, ap29_29, ap64_64, bd66, bs29_0, bs29_1, bs64_0, fa39_0, fa77_0, fa77_1, fa77_3, fa77_4, ix37, ld3, ld37, ld39, ld63, ld64, ld77, ln37, st77, ht1, h5, h4]
          refine oA_ins0 hn ⟨K2, hK2⟩ he0 o6 (fun b hb => by rcases x7.new b hb with h | h <;> simp [blkOf] at h <;> omega) hrl (by omega) fun b3 H3 f3 he3 v3 => ?_
          simp -implicitDefEqProofs only [kz, kk0, kk1, kk2, kk3, ↓two_true, ↓two_false, oS_some, oM_some, mkv, aggAt, Nat.reduceLeDiff, Nat.reduceSub, Nat.reduceMul, implies_true, Nat.reduceEqDiff, reduceIte, Nat.reduceAdd, Nat.reduceBEq, reduceCtorEq, al77, ap29_29, ap64_64, bd66, bs29_0, bs29_1, bs64_0, fa39_0, fa77_0, fa77_1, fa77_3, fa77_4, ix37, ld3, ld37, ld39, ld63, ld64, ld77, ln37, st77, ht1, h5, h4, wi]
          refine ⟨(i + 1, some ⟨b3, 0, none⟩, 6, _), by simp only; omega, by simp, rfl, hlt, f3, ?_, by obtain ⟨K, hK⟩ := he3; exact ⟨K, by rw [hK]; simp⟩⟩
          rw [v3, hc, List.take_succ_eq_append_getElem hlt2, hing, cpV_snoc, hcp]
        · simp -implicitDefEqProofs only [kz, kk0, kk1, kk2, kk3, ↓two_true, ↓two_false, oS_some, oM_some, mkv, aggAt, Nat.reduceLeDiff, Nat.reduceSub, Nat.reduceMul, implies_true, Nat.reduceEqDiff, reduceIte, Nat.reduceAdd, Nat.reduceBEq, reduceCtorEq, al77, ap29_29, ap64_64, bd66, bs29_0, bs29_1, bs64_0, fa39_0, fa77_0, fa77_1, fa77_3, fa77_4, ix37, ld3, ld37, ld39, ld63, ld64, ld77, ln37, st77, ht1, h5, h4, g0, Int.toNat_natCast, Nat.mul_one, g1, l1, Int.reduceBEq]
          refine ⟨by omega, oA_ins hn ⟨[], (List.append_nil _).symm⟩ he0 (.inl ⟨rfl, rfl⟩) (fun b hb => by simp [blkOf] at hb) (by simp) (by omega) fun b3 H3 f3 he3 v3 => ?_⟩
          simp -implicitDefEqProofs only [kz, kk0, kk1, kk2, kk3, ↓two_true, ↓two_false, oS_some, oM_some, mkv, aggAt, Nat.reduceLeDiff, Nat.reduceSub, Nat.reduceMul, implies_true, Nat.reduceEqDiff, reduceIte, Nat.reduceAdd, Nat.reduceBEq, reduceCtorEq, al77, ap29_29, ap64_64, bd66, bs29_0, bs29_1, bs64_0, fa39_0, fa77_0, fa77_1, fa77_3, fa77_4, ix37, ld3, ld37, ld39, ld63, ld64, ld77, ln37, st77, ht1, h5, h4, wi]
          refine ⟨(i + 1, some ⟨b3, 0, none⟩, 6, _), by simp only; omega, by simp, rfl, hlt, f3, ?_, by obtain ⟨K, hK⟩ := he3; exact ⟨K, by rw [hK]; simp⟩⟩
          rw [v3, hc, List.take_succ_eq_append_getElem hlt2, hing, cpV_snoc, hcp]
        · simp -implicitDefEqProofs only [kz, kk0, kk1, kk2, kk3, ↓two_true, ↓two_false, oS_some, oM_some, mkv, aggAt, Nat.reduceLeDiff, Nat.reduceSub, Nat.reduceMul, implies_true, Nat.reduceEqDiff, reduceIte, Nat.reduceAdd, Nat.reduceBEq, reduceCtorEq, al77, ap29_29, ap64_64, bd66, bs29_0, bs29_1, bs64_0, fa39_0, fa77_0, fa77_1, fa77_3, fa77_4, ix37, ld3, ld37, ld39, ld63, ld64, ld77, ln37, st77, ht1, h5, h4, g0, Int.toNat_natCast, Nat.mul_one, g1, l1, Int.reduceBEq]
          refine ⟨by omega, oA_ins hn ⟨[], (List.append_nil _).symm⟩ he0 (.inl ⟨rfl, rfl⟩) (fun b hb => by simp [blkOf] at hb) (by simp) (by omega) fun b3 H3 f3 he3 v3 => ?_⟩
          simp -implicitDefEqProofs only [kz, kk0, kk1, kk2, kk3, ↓two_true, ↓two_false, oS_some, oM_some, mkv, aggAt, Nat.reduceLeDiff, Nat.reduceSub, Nat.reduceMul, implies_true, Nat.reduceEqDiff, reduceIte, Nat.reduceAdd, Nat.reduceBEq, reduceCtorEq, al77, ap29_29, ap64_64, bd66, bs29_0, bs29_1, bs64_0, fa39_0, fa77_0, fa77_1, fa77_3, fa77_4, ix37, ld3, ld37, ld39, ld63, ld64, ld77, ln37, st77, ht1, h5, h4, wi]
          refine ⟨(i + 1, some ⟨b3, 0, none⟩, 6, _), by simp only; omega, by simp, rfl, hlt, f3, ?_, by obtain ⟨K, hK⟩ := he3; exact ⟨K, by rw [hK]; simp⟩⟩
          rw [v3, hc, List.take_succ_eq_append_getElem hlt2, hing, cpV_snoc, hcp]
        · simp -implicitDefEqProofs only [kz, kk0, kk1, kk2, kk3, ↓two_true, ↓two_false, oS_some, oM_some, mkv, aggAt, Nat.reduceLeDiff, Nat.reduceSub, Nat.reduceMul, implies_true, Nat.reduceEqDiff, reduceIte, Nat.reduceAdd, Nat.reduceBEq, reduceCtorEq, al77, ap29_29, ap64_64, bd66, bs29_0, bs29_1, bs64_0, fa39_0, fa77_0, fa77_1, fa77_3, fa77_4, ix37, ld3, ld37, ld39, ld63, ld64, ld77, ln37, st77, ht1, h5, h4, g0, Int.toNat_natCast, Nat.mul_one, g1, l1, Int.reduceBEq]
          refine ⟨by omega, oA_ins hn ⟨[], (List.append_nil _).symm⟩ he0 (.inl ⟨rfl, rfl⟩) (fun b hb => by simp [blkOf] at hb) (by simp) (by omega) fun b3 H3 f3 he3 v3 => ?_⟩
          simp -implicitDefEqProofs only [kz, kk0, kk1, kk2, kk3, ↓two_true, ↓two_false, oS_some, oM_some, mkv, aggAt, Nat.reduceLeDiff, Nat.reduceSub, Nat.reduceMul, implies_true, Nat.reduceEqDiff, reduceIte, Nat.reduceAdd, Nat.reduceBEq, reduceCtorEq, al77, ap29_29, ap64_64, bd66, bs29_0, bs29_1, bs64_0, fa39_0, fa77_0, fa77_1, fa77_3, fa77_4, ix37, ld3, ld37, ld39, ld63, ld64, ld77, ln37, st77, ht1, h5, h4, wi]
          refine ⟨(i + 1, some ⟨b3, 0, none⟩, 6, _), by simp only; omega, by simp, rfl, hlt, f3, ?_, by obtain ⟨K, hK⟩ := he3; exact ⟨K, by rw [hK]; simp⟩⟩
          rw [v3, hc, List.take_succ_eq_append_getElem hlt2, hing, cpV_snoc, hcp]
        · simp -implicitDefEqProofs only [kz, kk0, kk1, kk2, kk3, ↓two_true, ↓two_false, oS_some, oM_some, mkv, aggAt, Nat.reduceLeDiff, Nat.reduceSub, Nat.reduceMul, implies_true, Nat.reduceEqDiff, reduceIte, Nat.reduceAdd, Nat.reduceBEq, reduceCtorEq, al77, ap29_29, ap64_64, bd66, bs29_0, bs29_1, bs64_0, fa39_0, fa77_0, fa77_1, fa77_3, fa77_4, ix37, ld3, ld37, ld39, ld63, ld64, ld77, ln37, st77, ht1, h5, h4, g0, Int.toNat_natCast, Nat.mul_one, g1, l1, Int.reduceBEq]
          refine ⟨by omega, oA_ins hn ⟨[], (List.append_nil _).symm⟩ he0 (.inl ⟨rfl, rfl⟩) (fun b hb => by simp [blkOf] at hb) (by simp) (by omega) fun b3 H3 f3 he3 v3 => ?_⟩
          simp -implicitDefEqProofs only [kz, kk0, kk1, kk2, kk3, ↓two_true, ↓two_false, oS_some, oM_some, mkv, aggAt, Nat.reduceLeDiff, Nat.reduceSub, Nat.reduceMul, implies_true, Nat.reduceEqDiff, reduceIte, Nat.reduceAdd, Nat.reduceBEq, reduceCtorEq, al77, ap29_29, ap64_64, bd66, bs29_0, bs29_1, bs64_0, fa39_0, fa77_0, fa77_1, fa77_3, fa77_4, ix37, ld3, ld37, ld39, ld63, ld64, ld77, ln37, st77, ht1, h5, h4, wi]
          refine ⟨(i + 1, some ⟨b3, 0, none⟩, 6, _), by simp only; omega, by simp, rfl, hlt, f3, ?_, by obtain ⟨K, hK⟩ := he3; exact ⟨K, by rw [hK]; simp⟩⟩
          rw [v3, hc, List.take_succ_eq_append_getElem hlt2, hing, cpV_snoc, hcp]
      · have hil : i = n := by have : ¬ i < n := by simpa using hc'
                               omega
        subst hil
        rw [List.take_of_length_le (by omega)] at hc
        exact ⟨⟨a', c', i, ys, rfl, ⟨hn.ot, fun b hb => by have := hn.fr b hb; simp at this; omega⟩, by simp [hc], by omega, by simp⟩, he⟩

def bts (l : List Int) : List Value := l.map (.int .u8)
theorem bts_len {l : List Int} : (bts l).length = l.length := by simp [bts]
theorem bts_get {l : List Int} {i : Nat} (h : i < l.length) : (bts l)[i]? = some (.int .u8 l[i]) := by simp [bts, h]
theorem bts_app {l m : List Int} : bts l ++ bts m = bts (l ++ m) := by simp [bts]
/-- A slice of bytes that may be read. -/
def ByRow (H : AH) (v : Value) (l : List Int) : Prop :=
  (v = .slice none 0 0 ∧ l = []) ∨ ∃ b o cs, v = .slice (some ⟨b, o, none⟩) l.length 1 ∧ rd H b = some cs ∧ o + l.length ≤ cs.length ∧ (cs.drop o).take l.length = bts l
theorem ByRow.same {H H' : AH} {v : Value} {l : List Int} (h : ByRow H v l) (hs : ∀ b, blkOf v = some b → rd H' b = rd H b) : ByRow H' v l := by
  rcases h with h | ⟨b, o, cs, h1, h2, h3, h4⟩
  · exact .inl h
  · exact .inr ⟨b, o, cs, h1, by rw [hs b (by rw [h1]; rfl)]; exact h2, h3, h4⟩
theorem ByRow.ext {H H' : AH} {v : Value} {l : List Int} (h : ByRow H v l) (he : ∃ K, H' = H ++ K) : ByRow H' v l := by
  obtain ⟨K, rfl⟩ := he
  rcases h with h | ⟨b, o, cs, h1, h2, h3, h4⟩
  · exact .inl h
  · exact .inr ⟨b, o, cs, h1, by rw [rdl (by simp [h2]), h2], h3, h4⟩
theorem ByRow.op {H : AH} {v : Value} {l : List Int} (h : ByRow H v l) : ∃ a c, v = .slice a l.length c ∧ (0 < l.length → ∃ b o cs, a = some ⟨b, o, none⟩ ∧ c = 1 ∧ rd H b = some cs ∧ o + l.length ≤ cs.length ∧ ∀ i (hi : i < l.length), cs[o + i]? = some (.int .u8 l[i])) := by
  rcases h with ⟨rfl, rfl⟩ | ⟨b, o, cs, rfl, h1, h2, h3⟩
  · exact ⟨none, 0, rfl, fun h => by simp at h⟩
  · refine ⟨_, _, rfl, fun _ => ⟨b, o, cs, rfl, rfl, h1, h2, fun i hi => ?_⟩⟩
    have := bts_get hi
    rw [← h3, List.getElem?_take_of_lt hi, List.getElem?_drop] at this
    exact this
/-- A slice of bytes that is a whole block of its own, or nil. -/
def ByNew (H0 H : AH) (v : Value) (l : List Int) : Prop :=
  (v = .slice none 0 0 ∧ l = []) ∨ ∃ b, v = .slice (some ⟨b, 0, none⟩) l.length 1 ∧ H0.length ≤ b ∧ H[b]? = some ⟨bts l, .own⟩
theorem ByNew.row {H0 H : AH} {v : Value} {l : List Int} (h : ByNew H0 H v l) : ByRow H v l := by
  rcases h with h | ⟨b, h1, h2, h3⟩
  · exact .inl h
  · exact .inr ⟨b, 0, bts l, h1, rd_own h3, by rw [bts_len]; omega, by rw [List.drop_zero, List.take_of_length_le (by rw [bts_len]; exact Nat.le_refl _)]⟩
theorem ByNew.ext {H0 H H' : AH} {v : Value} {l : List Int} (h : ByNew H0 H v l) (he : ∃ K, H' = H ++ K) : ByNew H0 H' v l := by
  obtain ⟨K, rfl⟩ := he
  rcases h with h | ⟨b, h1, h2, h3⟩
  · exact .inl h
  · exact .inr ⟨b, h1, h2, gtl h3⟩
theorem ByNew.same {H0 H H' : AH} {v : Value} {l : List Int} (h : ByNew H0 H v l) (hs : ∀ b, blkOf v = some b → H'[b]? = H[b]?) : ByNew H0 H' v l := by
  rcases h with h | ⟨b, h1, h2, h3⟩
  · exact .inl h
  · exact .inr ⟨b, h1, h2, by rw [hs b (by rw [h1]; rfl)]; exact h3⟩
theorem ByNew.old {H0 H1 H : AH} {v : Value} {l : List Int} (h : ByNew H0 H v l) (hl : H1.length ≤ H0.length) : ByNew H1 H v l := by
  rcases h with h | ⟨b, h1, h2, h3⟩
  · exact .inl h
  · exact .inr ⟨b, h1, Nat.le_trans hl h2, h3⟩
theorem ByNew.lt {H0 H : AH} {v : Value} {l : List Int} (h : ByNew H0 H v l) {b : Nat} (hb : blkOf v = some b) : H0.length ≤ b ∧ b < H.length := by
  rcases h with ⟨rfl, _⟩ | ⟨b', rfl, h2, h3⟩
  · simp [blkOf] at hb
  · simp [blkOf] at hb; subst hb; exact ⟨h2, (List.getElem?_eq_some_iff.1 h3).1⟩
theorem LX.bx {c : Option Nat} {H0 H : AH} {L : List Ix} {o : Nat} {cs : List Value} (h : LX c H0 H L) (i : Nat) (hi : L[i]? = some (.own (.box o cs))) : H[o]? = some ⟨cs, .own⟩ := by
  obtain ⟨B, h⟩ := h
  exact h.ok i _ hi
theorem LX.bxlt {c : Option Nat} {H0 H : AH} {L : List Ix} {o : Nat} {cs : List Value} (h : LX c H0 H L) (i : Nat) (hi : L[i]? = some (.own (.box o cs))) : H0.length ≤ o := by
  obtain ⟨B, h⟩ := h
  exact (h.fr i _ hi o rfl).2
theorem oA_box {H : AH} {b b' n m : Nat} {cs ds : List Value} {Φ : Value → AH → Prop} (hb : H[b]? = some ⟨cs, .own⟩) (hd : rd H b' = some ds) (hn : n = cs.length) (hm : m = ds.length) (hlf : ds.all leaf = true) (h0 : 0 < m) (hl : n + m ≤ 1073741824)
    (k : ∀ H', App H (.slice (some ⟨b, 0, none⟩) n 1) H' (.slice (some ⟨H.length, 0, none⟩) (n + m) 1) → H'.length = H.length + 1 → H'[H.length]? = some ⟨cs ++ ds, .own⟩ → Φ (.slice (some ⟨H.length, 0, none⟩) (n + m) 1) H') :
    oA (app 1 (.slice (some ⟨b, 0, none⟩) n 1) (.slice (some ⟨b', 0, none⟩) m 1) H) Φ := by
  subst hn; subst hm
  have c1 : cl H 1 (.slice (some ⟨b, 0, none⟩) cs.length 1) = some cs := by
    simp only [cl, rd_own hb, Option.bind_some, Nat.mul_one, Nat.zero_add, Nat.le_refl, if_true, List.drop_zero, List.take_length]
  have c2 : cl H 1 (.slice (some ⟨b', 0, none⟩) ds.length 1) = some ds := by
    simp only [cl, hd, Option.bind_some, Nat.mul_one, Nat.zero_add, Nat.le_refl, if_true, List.drop_zero, List.take_length]
  unfold app
  rw [c1, c2]
  have hok : ownOk (.slice (some ⟨b, 0, none⟩) cs.length 1) 1 H = true := by simp [ownOk, hb]
  have e1 : ∀ b n : Nat, lenS (.slice (some ⟨b, 0, none⟩) n 1) = n := fun _ _ => rfl
  simp only [e1]
  rw [if_neg (show ¬ ds.length = 0 by omega), if_pos ⟨hl, hlf, hok⟩]
  refine k _ ⟨by simp [kill_len2], fun b2 hb2 hn => ?_, fun b2 hb2 => .inr ?_⟩ (by simp [kill_len2]) ?_
  · rw [List.getElem?_append_left (by rw [kill_len2]; exact hb2), kill_keep hn]
  · simp [blkOf] at hb2; omega
  · rw [← kill_len2 (v := .slice (some ⟨b, 0, none⟩) cs.length 1), gt0]; rfl
theorem LX.pushB {c : Option Nat} {H0 H H' : AH} {L : List Ix} {b b2 n m : Nat} {cs cs' : List Value} (h : LX c H0 H L) (i : Nat) (hi : L[i]? = some (.own (.box b cs))) (ha : App H (.slice (some ⟨b, 0, none⟩) n 1) H' (.slice (some ⟨b2, 0, none⟩) m 1)) (hb : H'[b2]? = some ⟨cs', .own⟩) : LX c H0 H' (L.set i (.own (.box b2 cs'))) := by
  obtain ⟨B, h⟩ := h
  refine ⟨B, h.upd i hi ha.len (fun g hg hn => ha.keep g hg (fun e => hn ?_)) hb fun g hg => ?_⟩
  · simp [blkOf] at e; exact e.symm
  · have hg : g = b2 := hg
    subst hg
    rcases ha.new g rfl with e | e
    · left; simp [blkOf] at e; exact e.symm
    · exact .inr e
theorem st_appB {c : Option Nat} {H0 H : AH} {L : List Ix} {Φ : Value → AH → Prop} {b b' n m : Nat} {cs ds : List Value} (q : LX c H0 H L) (i j : Nat) (hi : L[i]? = some (.own (.box b cs))) (hj : L[j]? = some (.own (.box b' ds))) (hn : n = cs.length) (hm : m = ds.length) (hlf : ds.all leaf = true) (h0 : 0 < m) (hl : n + m ≤ 1073741824)
    (k : ∀ H', LX c H0 H' (L.set i (.own (.box H.length (cs ++ ds)))) → Φ (.slice (some ⟨H.length, 0, none⟩) (n + m) 1) H') : oA (app 1 (.slice (some ⟨b, 0, none⟩) n 1) (.slice (some ⟨b', 0, none⟩) m 1) H) Φ :=
  oA_box (q.bx i hi) (rd_own (q.bx j hj)) hn hm hlf h0 hl fun H' ha _ hb => k H' (q.pushB i hi ha hb)
theorem App.trans {H H1 H2 : AH} {v v1 v2 : Value} (h1 : App H v H1 v1) (h2 : App H1 v1 H2 v2) : App H v H2 v2 := by
  refine ⟨Nat.le_trans h1.len h2.len, fun b hb hn => ?_, fun b hb => ?_⟩
  · rw [h2.keep b (Nat.lt_of_lt_of_le hb h1.len) (fun e => ?_), h1.keep b hb hn]
    rcases h1.new b e with h | h
    · exact hn h
    · omega
  · rcases h2.new b hb with h | h
    · exact h1.new b h
    · exact .inr (Nat.le_trans h1.len h)
/-- Eight bytes of a number, the lowest first. -/
def le8 (y : Int) : List Int := (List.range 8).map fun j : Nat => IntKind.u8.wrap (y.fdiv (2 ^ (8 * j)))
theorem le8_len {y : Int} : (le8 y).length = 8 := by simp [le8]
theorem le8_take {y : Int} {i : Nat} (h : i < 8) : (le8 y).take (i + 1) = (le8 y).take i ++ [IntKind.u8.wrap (y.fdiv (2 ^ (8 * i)))] := by
  rw [List.take_succ_eq_append_getElem (by rw [le8_len]; exact h)]
  simp [le8]
theorem shr8 {i : Nat} (h : i < 8) : (2 : Int) ^ (min (((8 : Int) * (i : Int)).toNat) IntKind.i64.bits) = 2 ^ (8 * i) := by
  have : ((8 : Int) * (i : Int)).toNat = 8 * i := by omega
  rw [this, Nat.min_eq_left (by show 8 * i ≤ 64; omega)]

set_option maxHeartbeats 4000000 in
theorem putNum_ok {H : AH} {b n : Nat} {W : List Int} {x : Int} (hb : H[b]? = some ⟨bts W, .own⟩) (hn : n = W.length) (hl : n ≤ 1000000) (hx : -1000000000000 ≤ x ∧ x ≤ 1000000000000) :
    CallsA Try.prog 56 #[.slice (some ⟨b, 0, none⟩) n 1, .int .i64 x] H fun r H' => ∃ b', r = .slice (some ⟨b', 0, none⟩) (n + 8) 1 ∧ App H (.slice (some ⟨b, 0, none⟩) n 1) H' (.slice (some ⟨b', 0, none⟩) (n + 8) 1) ∧ H'[b']? = some ⟨bts (W ++ le8 (x + 1000000000000)), .own⟩ := by
  have wx : IntKind.i64.wrap (x + 1000000000000) = x + 1000000000000 := IntWalk.i64_in _ (by omega)
  refine w56 ?_
  unfold k56
  simp -implicitDefEqProofs only [kz, kk0, kk1, kk2, kk3, ↓two_true, ↓two_false, oS_some, oM_some, mkv, aggAt, Nat.reduceLeDiff, Nat.reduceSub, Nat.reduceMul, implies_true, Nat.reduceEqDiff, reduceIte, Nat.reduceAdd, Nat.reduceBEq, reduceCtorEq, ap22_22, bs22_1, cv3_5, wx]
  refine rW_loop (σ := Nat × Nat) (fun x' tm H' => tm 0 = .slice (some ⟨x'.2, 0, none⟩) (n + x'.1) 1 ∧ tm 5 = .int .i64 (x + 1000000000000) ∧ tm 6 = .int .i64 x'.1 ∧ x'.1 ≤ 8 ∧ App H (.slice (some ⟨b, 0, none⟩) n 1) H' (.slice (some ⟨x'.2, 0, none⟩) (n + x'.1) 1) ∧ H'[x'.2]? = some ⟨bts (W ++ (le8 (x + 1000000000000)).take x'.1), .own⟩) (fun x => 8 - x.1) (0, b) ?_ ?_
  · refine ⟨?_, ?_, ?_, Nat.zero_le _, ⟨Nat.le_refl _, fun _ _ _ => rfl, fun _ h => .inl h⟩, ?_⟩
    · simp -implicitDefEqProofs [kk0, kk1, kk2, kk3, rW_block, ↓two_true, ↓two_false, rW_cond, rO_guard, oS_some, oM_some, mkv, aggAt, Nat.reduceLeDiff, Nat.reduceSub, Nat.reduceMul, cond_true, cond_false, Option.bind_some, List.length_append, List.length_cons, List.length_nil, List.append_assoc, List.cons_append, List.nil_append, List.set_cons_zero, List.set_cons_succ, List.size_toArray, List.all_cons, List.all_nil, List.drop_zero, List.drop_succ_cons, List.take_succ_cons, List.take_zero, List.mem_cons, Prod.mk.injEq, List.not_mem_nil, implies_true, List.getElem?_toArray, List.getElem?_cons_zero, List.getElem?_cons_succ, List.getElem?_nil, Option.getD_some, Option.getD_none, Nat.reduceEqDiff, reduceIte, Nat.reduceAdd, List.map_toArray, List.map_cons, List.map_nil, Bool.false_eq_true, Nat.reduceBEq, Option.map_some, Option.map_none, reduceCtorEq, ap22_22, bs22_1, cv3_5]
    · simp -implicitDefEqProofs [kk0, kk1, kk2, kk3, rW_block, ↓two_true, ↓two_false, rW_cond, rO_guard, oS_some, oM_some, mkv, aggAt, Nat.reduceLeDiff, Nat.reduceSub, Nat.reduceMul, cond_true, cond_false, Option.bind_some, List.length_append, List.length_cons, List.length_nil, List.append_assoc, List.cons_append, List.nil_append, List.set_cons_zero, List.set_cons_succ, List.size_toArray, List.all_cons, List.all_nil, List.drop_zero, List.drop_succ_cons, List.take_succ_cons, List.take_zero, List.mem_cons, Prod.mk.injEq, List.not_mem_nil, implies_true, List.getElem?_toArray, List.getElem?_cons_zero, List.getElem?_cons_succ, List.getElem?_nil, Option.getD_some, Option.getD_none, Nat.reduceEqDiff, reduceIte, Nat.reduceAdd, List.map_toArray, List.map_cons, List.map_nil, Bool.false_eq_true, Nat.reduceBEq, Option.map_some, Option.map_none, reduceCtorEq, ap22_22, bs22_1, cv3_5]
    · simp -implicitDefEqProofs [kk0, kk1, kk2, kk3, rW_block, ↓two_true, ↓two_false, rW_cond, rO_guard, oS_some, oM_some, mkv, aggAt, Nat.reduceLeDiff, Nat.reduceSub, Nat.reduceMul, cond_true, cond_false, Option.bind_some, List.length_append, List.length_cons, List.length_nil, List.append_assoc, List.cons_append, List.nil_append, List.set_cons_zero, List.set_cons_succ, List.size_toArray, List.all_cons, List.all_nil, List.drop_zero, List.drop_succ_cons, List.take_succ_cons, List.take_zero, List.mem_cons, Prod.mk.injEq, List.not_mem_nil, implies_true, List.getElem?_toArray, List.getElem?_cons_zero, List.getElem?_cons_succ, List.getElem?_nil, Option.getD_some, Option.getD_none, Nat.reduceEqDiff, reduceIte, Nat.reduceAdd, List.map_toArray, List.map_cons, List.map_nil, Bool.false_eq_true, Nat.reduceBEq, Option.map_some, Option.map_none, reduceCtorEq, ap22_22, bs22_1, cv3_5]
    · simp only [List.take_zero, List.append_nil]; exact hb
  · rintro ⟨i, b1⟩ tm H1 ⟨h0, h5, h6, hi, ha, hb1⟩
    simp only at h0 h5 h6 hi ha hb1
    simp -implicitDefEqProofs only [kz, kk0, kk1, kk2, kk3, ↓two_true, ↓two_false, oS_some, oM_some, mkv, aggAt, Nat.reduceLeDiff, Nat.reduceSub, Nat.reduceMul, implies_true, Nat.reduceEqDiff, reduceIte, Nat.reduceAdd, Nat.reduceBEq, reduceCtorEq, ap22_22, bs22_1, cv3_5, h0, h5, h6]
    refine two_intro (fun u => ?_) (fun u => ?_)
    · have hi2 : i < 8 := by have h5 := of_decide_eq_true u; omega
      have wi : IntKind.i64.wrap ((i : Int) + 1) = ((i + 1 : Nat) : Int) := IntWalk.i64_in ((i : Int) + 1) (by omega)
      have w8 : IntKind.i64.wrap ((8 : Int) * (i : Int)) = (8 : Int) * (i : Int) := IntWalk.i64_in _ (by omega)
      have hsh := fun (t : TypeId) (p q : Operand) => bin_shr (P := Try.prog) (t := t) (x := p) (y := q) (k := .i64) (k' := .i64) (a := x + 1000000000000) (b := (8 : Int) * (i : Int)) (by omega)
      simp only [shr8 hi2] at hsh
      simp -implicitDefEqProofs only [kz, kk0, kk1, kk2, kk3, ↓two_true, ↓two_false, oS_some, oM_some, mkv, aggAt, Nat.reduceLeDiff, Nat.reduceSub, Nat.reduceMul, implies_true, Nat.reduceEqDiff, reduceIte, Nat.reduceAdd, Nat.reduceBEq, reduceCtorEq, ap22_22, bs22_1, cv3_5, h0, h5, h6, wi, w8, hsh]
      have hb2 := gtl (L := [(⟨[.int .u8 (IntKind.u8.wrap ((x + 1000000000000).fdiv (2 ^ (8 * i))))], .own⟩ : Blk)]) hb1
      refine oA_box hb2 (rd_own (by rw [gt0]; rfl)) (by rw [bts_len]; simp [le8_len, hn]; omega) rfl rfl (by decide) (by omega) fun H2 a2 _ hb3 => ?_
      simp -implicitDefEqProofs only [kz, kk0, kk1, kk2, kk3, ↓two_true, ↓two_false, oS_some, oM_some, mkv, aggAt, Nat.reduceLeDiff, Nat.reduceSub, Nat.reduceMul, implies_true, Nat.reduceEqDiff, reduceIte, Nat.reduceAdd, Nat.reduceBEq, reduceCtorEq, ap22_22, bs22_1, cv3_5, h0, h5, h6, wi]
      simp only [List.length_append, List.length_cons, List.length_nil, Nat.zero_add] at a2 hb3
      refine ⟨(i + 1, _), by simp only; omega, rfl, rfl, hi2, ha.trans (App.trans (v1 := .slice (some ⟨b1, 0, none⟩) (n + i) 1) ⟨by simp, fun g hg _ => List.getElem?_append_left hg, fun g hg => .inl hg⟩ a2), ?_⟩
      rw [hb3, le8_take hi2, ← List.append_assoc]
      simp only [← bts_app]
      rfl
    · have hi2 : i = 8 := by have h5 := of_decide_eq_false u; omega
      subst hi2
      rw [List.take_of_length_le (by rw [le8_len]; exact Nat.le_refl _)] at hb1
      exact ⟨b1, rfl, ha, hb1⟩

/-- An instruction's bytes. -/
def pkI (x : Ins) : List Int := ([x.op, x.a, x.s, x.o, x.w].map IntKind.u8.wrap) ++ if x.op = 1 then [IntKind.u8.wrap (x.nums.length : Int), IntKind.u8.wrap ((x.nums.length : Int) / 256)] ++ x.nums.flatMap (fun n => le8 (n + 1000000000000)) else []
def pkG (l : List Ins) : List Int := IntKind.u8.wrap (l.length : Int) :: l.flatMap pkI
def pkA (l : List Ins) : List Int := if cdOk l = true then pkG l else []
def pkT (l : List Ins) (i : Nat) : List Int := IntKind.u8.wrap (l.length : Int) :: (l.take i).flatMap pkI
theorem pkT_succ {l : List Ins} {i : Nat} {x : Ins} (h : l[i]? = some x) : pkT l (i + 1) = pkT l i ++ pkI x := by
  obtain ⟨h1, h2⟩ := List.getElem?_eq_some_iff.1 h
  unfold pkT
  rw [List.take_succ_eq_append_getElem h1, List.flatMap_append, h2]; simp
theorem le8s_len {l : List Int} : (l.flatMap fun n => le8 (n + 1000000000000)).length = l.length * 8 := by
  induction l with
  | nil => rfl
  | cons x l ih => rw [List.flatMap_cons, List.length_append, ih, le8_len, List.length_cons]; omega
theorem insOk_nums {x : Ins} (h : insOk x = true) (h1 : x.op = 1) : numsOk x.nums = true := by
  unfold insOk at h
  rw [h1] at h
  simp at h
  exact h.2.2
theorem pkI_len {x : Ins} (h : insOk x = true) : (pkI x).length ≤ 2407 := by
  unfold pkI
  rw [List.length_append]
  split
  · rename_i h1
    have := insOk_nums h h1
    simp only [numsOk, inB, Bool.and_eq_true, decide_eq_true_eq] at this
    rw [List.length_append, le8s_len]
    simp; omega
  · simp
theorem pkT_len {l : List Ins} (h : l.all insOk = true) : ∀ {i : Nat}, (pkT l i).length ≤ 1 + 2407 * i
  | 0 => by simp [pkT]
  | i + 1 => by
    have ih := pkT_len h (i := i)
    rcases Nat.lt_or_ge i l.length with hi | hi
    · rw [pkT_succ (List.getElem?_eq_getElem hi), List.length_append]
      have := pkI_len (List.all_eq_true.1 h _ (List.getElem_mem hi))
      omega
    · have : pkT l (i + 1) = pkT l i := by unfold pkT; rw [List.take_of_length_le (by omega), List.take_of_length_le hi]
      rw [this]; omega

set_option maxHeartbeats 4000000 in
theorem implPack_ok {H : AH} {v : Value} {n : Nat} {xs : List Value} (hv : FRow H v kInstr n xs) (hl : n ≤ 1048576) :
    CallsA Try.prog 24 #[v] H fun r H' => (∃ w, r = .tuple #[w, .bool (cdOk (insL (cvs H xs) n))] ∧ ByNew H H' w (pkA (insL (cvs H xs) n))) ∧ ∃ K, H' = H ++ K := by
  have hc := implCodeOk_ok hv hl
  obtain ⟨a, c, rfl, gv⟩ := hv.opn 6 rfl
  generalize hL : insL (cvs H xs) n = l at *
  have hll : l.length = n := by rw [← hL, insL_len]
  have q := (LX.nil (H := H))
  refine w24 ?_
  unfold k24
  simp -implicitDefEqProofs only [kz, kk0, kk1, kk2, kk3, ↓two_true, ↓two_false, mkv, aggAt, Nat.reduceLeDiff, Nat.reduceSub, Nat.reduceMul, implies_true, Nat.reduceEqDiff, reduceIte, Nat.reduceAdd, Nat.reduceBEq, reduceCtorEq, al66, ap22_22, bs22_1, bs22_2, bs22_5, cv3_5, fa63_0, fa63_1, fa63_2, fa66_0, fa66_1, fa66_2, fa66_3, ix29, ix64, ld3, ld64, ld66, ln29, ln64, st66]
  refine hc.mono ?_
  rintro _ H1 ⟨rfl, hK1⟩
  have q1 := q.extd hK1
  simp -implicitDefEqProofs only [kz, kk0, kk1, kk2, kk3, ↓two_true, ↓two_false, mkv, aggAt, Nat.reduceLeDiff, Nat.reduceSub, Nat.reduceMul, implies_true, Nat.reduceEqDiff, reduceIte, Nat.reduceAdd, Nat.reduceBEq, reduceCtorEq, al66, ap22_22, bs22_1, bs22_2, bs22_5, cv3_5, fa63_0, fa63_1, fa63_2, fa66_0, fa66_1, fa66_2, fa66_3, ix29, ix64, ld3, ld64, ld66, ln29, ln64, st66]
  refine two_intro (fun u1 => ?_) (fun u1 => ?_)
  · have hk : cdOk l = false := by simpa using u1
    rw [hk]
    exact ⟨⟨_, rfl, .inl ⟨rfl, by unfold pkA; rw [hk]; rfl⟩⟩, hK1⟩
  · have hk : cdOk l = true := by simpa using u1
    have hk' := hk
    unfold cdOk at hk'
    simp only [Bool.and_eq_true] at hk'
    have hb2 : 1 ≤ n ∧ n ≤ 60 := by have := hk'.1; rw [hll] at this; simp [inB] at this; omega
    have hok := hk'.2.1
    clear hk'
    try simp -implicitDefEqProofs only [kz, kk0, kk1, kk2, kk3, ↓two_true, ↓two_false, mkv, aggAt, Nat.reduceLeDiff, Nat.reduceSub, Nat.reduceMul, implies_true, Nat.reduceEqDiff, reduceIte, Nat.reduceAdd, Nat.reduceBEq, reduceCtorEq, al66, ap22_22, bs22_1, bs22_2, bs22_5, cv3_5, fa63_0, fa63_1, fa63_2, fa66_0, fa66_1, fa66_2, fa66_3, ix29, ix64, ld3, ld64, ld66, ln29, ln64, st66]
    refine st_cells q1 fun H2 q2 => ?_
    simp -implicitDefEqProofs only [kz, kk0, kk1, kk2, kk3, ↓two_true, ↓two_false, mkv, aggAt, Nat.reduceLeDiff, Nat.reduceSub, Nat.reduceMul, implies_true, Nat.reduceEqDiff, reduceIte, Nat.reduceAdd, Nat.reduceBEq, reduceCtorEq, al66, ap22_22, bs22_1, bs22_2, bs22_5, cv3_5, fa63_0, fa63_1, fa63_2, fa66_0, fa66_1, fa66_2, fa66_3, ix29, ix64, ld3, ld64, ld66, ln29, ln64, st66]
    have e0 : [Value.int .u8 (IntKind.u8.wrap (n : Int))] = bts (pkT l 0) := by rw [← hll]; rfl
    rw [e0] at q2
    have hT0 : (pkT l 0).length = 1 := rfl
    refine rW_loopQ (σ := Nat × Nat) q2 [16, 17] (fun x tm => tm 4 = .slice (some ⟨x.2, 0, none⟩) (pkT l x.1).length 1 ∧ tm 18 = .int .i64 x.1 ∧ x.1 ≤ n) (fun x L => [.own (.box x.2 (bts (pkT l x.1)))]) (fun x => n - x.1) (0, H1.length) ⟨rfl, rfl, Nat.zero_le _⟩ rfl ?_
    rintro ⟨i, bo⟩ tm1 H3 ⟨lv1, lv2, -⟩ ⟨k4, ki, hi⟩ q3
    simp -implicitDefEqProofs only [kz, kk0, kk1, kk2, kk3, ↓two_true, ↓two_false, mkv, aggAt, Nat.reduceLeDiff, Nat.reduceSub, Nat.reduceMul, implies_true, Nat.reduceEqDiff, reduceIte, Nat.reduceAdd, Nat.reduceBEq, reduceCtorEq, al66, ap22_22, bs22_1, bs22_2, bs22_5, cv3_5, fa63_0, fa63_1, fa63_2, fa66_0, fa66_1, fa66_2, fa66_3, ix29, ix64, ld3, ld64, ld66, ln29, ln64, st66] at lv1 lv2
    simp only at k4 ki hi
    simp -implicitDefEqProofs only [kz, kk0, kk1, kk2, kk3, ↓two_true, ↓two_false, mkv, aggAt, Nat.reduceLeDiff, Nat.reduceSub, Nat.reduceMul, implies_true, Nat.reduceEqDiff, reduceIte, Nat.reduceAdd, Nat.reduceBEq, reduceCtorEq, al66, ap22_22, bs22_1, bs22_2, bs22_5, cv3_5, fa63_0, fa63_1, fa63_2, fa66_0, fa66_1, fa66_2, fa66_3, ix29, ix64, ld3, ld64, ld66, ln29, ln64, st66, lv1, lv2, ki, k4]
    refine two_intro (fun u2 => ?_) (fun u2 => ?_)
    · have hlt : i < n := by have h5 := of_decide_eq_true u2; omega
      obtain ⟨b, o, cs, rfl, rfl, hrd, hle, hcell⟩ := gv (by omega)
      have x1 := hv.elemn 6 rfl hlt
      have hin : l[i]? = some (insOf ((elm 6 xs i).map (cv H))) := by rw [← hL]; exact insL_get hlt
      have hpk := pkT_succ hin
      have hio : insOk (insOf ((elm 6 xs i).map (cv H))) = true := (List.all_eq_true.1 hok) _ (List.mem_of_getElem? hin)
      have g1 := rd_ext hrd q3.ext
      have l1 : ld Try.prog 66 (o + i * 6) cs = some (.agg (elm 6 xs i).toArray) := by rw [ld66]; exact (hcell _ hlt).1
      obtain ⟨op, ia, is, io, iw, y, ex, ky, ei⟩ := all2_instr x1
      rw [ei] at hpk hio
      clear hin
      generalize elm 6 xs i = x at *
      subst ex
      obtain ⟨a5, c5, e5⟩ := ky.1.slice
      have hr : IntRow H y (rowI H y) := ky.1
      have hrl := ky.2
      generalize rowI H y = m at *
      subst e5
      have wi : IntKind.i64.wrap ((i : Int) + 1) = ((i + 1 : Nat) : Int) := IntWalk.i64_in ((i : Int) + 1) (by omega)
      have hTl := pkT_len hok (i := i)
      simp -implicitDefEqProofs only [kz, kk0, kk1, kk2, kk3, ↓two_true, ↓two_false, mkv, aggAt, Nat.reduceLeDiff, Nat.reduceSub, Nat.reduceMul, implies_true, Nat.reduceEqDiff, reduceIte, Nat.reduceAdd, Nat.reduceBEq, reduceCtorEq, al66, ap22_22, bs22_1, bs22_2, bs22_5, cv3_5, fa63_0, fa63_1, fa63_2, fa66_0, fa66_1, fa66_2, fa66_3, ix29, ix64, ld3, ld64, ld66, ln29, ln64, st66, lv1, lv2, ki, k4, Int.toNat_natCast, Nat.mul_one, g1, l1]
      refine ⟨by omega, ?_⟩
      refine st_box q3 fun H4 q4 => ?_
      simp -implicitDefEqProofs only [kz, kk0, kk1, kk2, kk3, ↓two_true, ↓two_false, mkv, aggAt, Nat.reduceLeDiff, Nat.reduceSub, Nat.reduceMul, implies_true, Nat.reduceEqDiff, reduceIte, Nat.reduceAdd, Nat.reduceBEq, reduceCtorEq, al66, ap22_22, bs22_1, bs22_2, bs22_5, cv3_5, fa63_0, fa63_1, fa63_2, fa66_0, fa66_1, fa66_2, fa66_3, ix29, ix64, ld3, ld64, ld66, ln29, ln64, st66, lv1, lv2, ki, k4, q4.rd 0 rfl]
      refine st_set q4 0 rfl fun H5 q5 => ?_
      simp only [List.set_cons_zero, List.set_cons_succ] at q5
      simp -implicitDefEqProofs only [kz, kk0, kk1, kk2, kk3, ↓two_true, ↓two_false, mkv, aggAt, Nat.reduceLeDiff, Nat.reduceSub, Nat.reduceMul, implies_true, Nat.reduceEqDiff, reduceIte, Nat.reduceAdd, Nat.reduceBEq, reduceCtorEq, al66, ap22_22, bs22_1, bs22_2, bs22_5, cv3_5, fa63_0, fa63_1, fa63_2, fa66_0, fa66_1, fa66_2, fa66_3, ix29, ix64, ld3, ld64, ld66, ln29, ln64, st66, lv1, lv2, ki, k4, q5.rd 0 rfl]
      refine st_cells q5 fun H6 q6 => ?_
      simp -implicitDefEqProofs only [kz, kk0, kk1, kk2, kk3, ↓two_true, ↓two_false, mkv, aggAt, Nat.reduceLeDiff, Nat.reduceSub, Nat.reduceMul, implies_true, Nat.reduceEqDiff, reduceIte, Nat.reduceAdd, Nat.reduceBEq, reduceCtorEq, al66, ap22_22, bs22_1, bs22_2, bs22_5, cv3_5, fa63_0, fa63_1, fa63_2, fa66_0, fa66_1, fa66_2, fa66_3, ix29, ix64, ld3, ld64, ld66, ln29, ln64, st66, lv1, lv2, ki, k4, q6.rd 1 rfl]
      refine st_appB q6 2 0 rfl rfl (bts_len.symm) rfl rfl (by decide) (by omega) fun H7 q7 => ?_
      simp only [List.set_cons_zero, List.set_cons_succ] at q7
      simp -implicitDefEqProofs only [kz, kk0, kk1, kk2, kk3, ↓two_true, ↓two_false, mkv, aggAt, Nat.reduceLeDiff, Nat.reduceSub, Nat.reduceMul, implies_true, Nat.reduceEqDiff, reduceIte, Nat.reduceAdd, Nat.reduceBEq, reduceCtorEq, al66, ap22_22, bs22_1, bs22_2, bs22_5, cv3_5, fa63_0, fa63_1, fa63_2, fa66_0, fa66_1, fa66_2, fa66_3, ix29, ix64, ld3, ld64, ld66, ln29, ln64, st66, lv1, lv2, ki, k4, q7.rd 1 rfl]
      have e5 : bts (pkT l i) ++ [Value.int .u8 (IntKind.u8.wrap op), .int .u8 (IntKind.u8.wrap ia), .int .u8 (IntKind.u8.wrap is), .int .u8 (IntKind.u8.wrap io), .int .u8 (IntKind.u8.wrap iw)] = bts (pkT l i ++ [op, ia, is, io, iw].map IntKind.u8.wrap) := by rw [← bts_app]; rfl
      rw [e5] at q7
      have hWl : (pkT l i ++ [op, ia, is, io, iw].map IntKind.u8.wrap).length = (pkT l i).length + 5 := by simp
      by_cases hop : op = 1
      · subst hop
        have hnm := insOk_nums hio rfl
        simp only [numsOk, inB, Bool.and_eq_true, decide_eq_true_eq] at hnm
        obtain ⟨⟨hm1, hm2⟩, hnum⟩ := hnm
        try simp only at hm1 hm2 hnum
        have hsh := fun (t : TypeId) (p q : Operand) => bin_shr (P := Try.prog) (t := t) (x := p) (y := q) (k := .i64) (k' := .u64) (a := (m.length : Int)) (b := (8 : Int)) (by omega)
        simp only [show (2 : Int) ^ (min ((8 : Int).toNat) IntKind.i64.bits) = 256 by decide] at hsh
        simp -implicitDefEqProofs only [kz, kk0, kk1, kk2, kk3, ↓two_true, ↓two_false, mkv, aggAt, Nat.reduceLeDiff, Nat.reduceSub, Nat.reduceMul, implies_true, Nat.reduceEqDiff, reduceIte, Nat.reduceAdd, Nat.reduceBEq, reduceCtorEq, al66, ap22_22, bs22_1, bs22_2, bs22_5, cv3_5, fa63_0, fa63_1, fa63_2, fa66_0, fa66_1, fa66_2, fa66_3, ix29, ix64, ld3, ld64, ld66, ln29, ln64, st66, lv1, lv2, ki, k4, q7.rd 1 rfl, Int.reduceBEq, hsh]
        refine st_cells q7 fun H8 q8 => ?_
        simp -implicitDefEqProofs only [kz, kk0, kk1, kk2, kk3, ↓two_true, ↓two_false, mkv, aggAt, Nat.reduceLeDiff, Nat.reduceSub, Nat.reduceMul, implies_true, Nat.reduceEqDiff, reduceIte, Nat.reduceAdd, Nat.reduceBEq, reduceCtorEq, al66, ap22_22, bs22_1, bs22_2, bs22_5, cv3_5, fa63_0, fa63_1, fa63_2, fa66_0, fa66_1, fa66_2, fa66_3, ix29, ix64, ld3, ld64, ld66, ln29, ln64, st66, lv1, lv2, ki, k4, q8.rd 2 rfl]
        refine st_appB q8 3 0 rfl rfl (by rw [bts_len, hWl]) rfl rfl (by decide) (by omega) fun H9 q9 => ?_
        simp only [List.set_cons_zero, List.set_cons_succ] at q9
        simp -implicitDefEqProofs only [kz, kk0, kk1, kk2, kk3, ↓two_true, ↓two_false, mkv, aggAt, Nat.reduceLeDiff, Nat.reduceSub, Nat.reduceMul, implies_true, Nat.reduceEqDiff, reduceIte, Nat.reduceAdd, Nat.reduceBEq, reduceCtorEq, al66, ap22_22, bs22_1, bs22_2, bs22_5, cv3_5, fa63_0, fa63_1, fa63_2, fa66_0, fa66_1, fa66_2, fa66_3, ix29, ix64, ld3, ld64, ld66, ln29, ln64, st66, lv1, lv2, ki, k4, q9.rd 2 rfl]
        have e7 : bts (pkT l i ++ [1, ia, is, io, iw].map IntKind.u8.wrap) ++ [Value.int .u8 (IntKind.u8.wrap (m.length : Int)), .int .u8 (IntKind.u8.wrap ((m.length : Int).fdiv 256))] = bts (pkT l i ++ [1, ia, is, io, iw].map IntKind.u8.wrap ++ [IntKind.u8.wrap (m.length : Int), IntKind.u8.wrap ((m.length : Int) / 256)]) := by
          rw [Int.fdiv_eq_ediv_of_nonneg _ (by decide)]
          simp only [← bts_app]
          rfl
        rw [e7] at q9
        have hpI : pkI ⟨1, ia, is, io, iw, m⟩ = [1, ia, is, io, iw].map IntKind.u8.wrap ++ [IntKind.u8.wrap (m.length : Int), IntKind.u8.wrap ((m.length : Int) / 256)] ++ m.flatMap (fun n => le8 (n + 1000000000000)) := by
          unfold pkI; rw [if_pos rfl, List.append_assoc]
        rw [hpI] at hpk
        rw [← List.append_assoc, ← List.append_assoc] at hpk
        generalize hW : pkT l i ++ [1, ia, is, io, iw].map IntKind.u8.wrap ++ [IntKind.u8.wrap (m.length : Int), IntKind.u8.wrap ((m.length : Int) / 256)] = W at *
        have hW2 : W.length = (pkT l i).length + 5 + 2 := by rw [← hW]; simp
        clear hW e7 e5 hpI hsh
        refine rW_loopQ (σ := Nat × Nat) q9 [16, 17, 18, 59, 60] (fun x tm => tm 4 = .slice (some ⟨x.2, 0, none⟩) (W.length + x.1 * 8) 1 ∧ tm 61 = .int .i64 x.1 ∧ x.1 ≤ m.length) (fun x L => L.set 3 (.own (.box x.2 (bts (W ++ (m.take x.1).flatMap fun n => le8 (n + 1000000000000)))))) (fun x => m.length - x.1) (0, H8.length) ⟨by rw [hW2]; rfl, rfl, Nat.zero_le _⟩ (by simp only [List.take_zero, List.flatMap_nil, List.append_nil]; rfl) ?_
        rintro ⟨k, b2⟩ tm2 H10 ⟨mv1, mv2, mv3, mv4, mv5, -⟩ ⟨n4, nk, hkm⟩ q10
        simp -implicitDefEqProofs only [kz, kk0, kk1, kk2, kk3, ↓two_true, ↓two_false, mkv, aggAt, Nat.reduceLeDiff, Nat.reduceSub, Nat.reduceMul, implies_true, Nat.reduceEqDiff, reduceIte, Nat.reduceAdd, Nat.reduceBEq, reduceCtorEq, al66, ap22_22, bs22_1, bs22_2, bs22_5, cv3_5, fa63_0, fa63_1, fa63_2, fa66_0, fa66_1, fa66_2, fa66_3, ix29, ix64, ld3, ld64, ld66, ln29, ln64, st66, lv1, lv2, ki] at mv1 mv2 mv3 mv4 mv5
        simp only at n4 nk hkm
        simp only [List.set_cons_zero, List.set_cons_succ] at q10
        simp -implicitDefEqProofs only [kz, kk0, kk1, kk2, kk3, ↓two_true, ↓two_false, mkv, aggAt, Nat.reduceLeDiff, Nat.reduceSub, Nat.reduceMul, implies_true, Nat.reduceEqDiff, reduceIte, Nat.reduceAdd, Nat.reduceBEq, reduceCtorEq, al66, ap22_22, bs22_1, bs22_2, bs22_5, cv3_5, fa63_0, fa63_1, fa63_2, fa66_0, fa66_1, fa66_2, fa66_3, ix29, ix64, ld3, ld64, ld66, ln29, ln64, st66, mv1, mv2, mv3, mv4, mv5, n4, nk]
        refine two_intro (fun u3 => ?_) (fun u3 => ?_)
        · have hk2 : k < m.length := by have h5 := of_decide_eq_true u3; omega
          have wk : IntKind.i64.wrap ((k : Int) + 1) = ((k + 1 : Nat) : Int) := IntWalk.i64_in ((k : Int) + 1) (by omega)
          obtain ⟨a3, c3, e3, g3⟩ := (hr.ext q10.ext).op
          obtain ⟨b3, o3, cs3, rfl, rfl, fr3, -, fc3⟩ := g3 (by omega)
          simp only [Value.slice.injEq, true_and] at e3
          obtain ⟨rfl, rfl⟩ := e3
          have fc3 := fc3 k hk2
          have hnk := numOk_iff.1 (List.all_eq_true.1 hnum _ (List.getElem_mem hk2))
          simp -implicitDefEqProofs only [kz, kk0, kk1, kk2, kk3, ↓two_true, ↓two_false, mkv, aggAt, Nat.reduceLeDiff, Nat.reduceSub, Nat.reduceMul, implies_true, Nat.reduceEqDiff, reduceIte, Nat.reduceAdd, Nat.reduceBEq, reduceCtorEq, al66, ap22_22, bs22_1, bs22_2, bs22_5, cv3_5, fa63_0, fa63_1, fa63_2, fa66_0, fa66_1, fa66_2, fa66_3, ix29, ix64, ld3, ld64, ld66, ln29, ln64, st66, mv1, mv2, mv3, mv4, mv5, n4, nk, Int.toNat_natCast, Nat.mul_one, fr3, fc3]
          refine ⟨by omega, ?_⟩
          have hlW : (W ++ (m.take k).flatMap fun n => le8 (n + 1000000000000)).length = W.length + k * 8 := by rw [List.length_append, le8s_len, List.length_take, Nat.min_eq_left (by omega)]
          refine (putNum_ok (q10.bx 3 rfl) hlW.symm (by omega) ⟨by omega, by omega⟩).mono ?_
          rintro _ H11 ⟨b4, rfl, ha4, hb4⟩
          have q11 := q10.pushB 3 rfl ha4 hb4
          simp only [List.set_cons_zero, List.set_cons_succ] at q11
          simp -implicitDefEqProofs only [kz, kk0, kk1, kk2, kk3, ↓two_true, ↓two_false, mkv, aggAt, Nat.reduceLeDiff, Nat.reduceSub, Nat.reduceMul, implies_true, Nat.reduceEqDiff, reduceIte, Nat.reduceAdd, Nat.reduceBEq, reduceCtorEq, al66, ap22_22, bs22_1, bs22_2, bs22_5, cv3_5, fa63_0, fa63_1, fa63_2, fa66_0, fa66_1, fa66_2, fa66_3, ix29, ix64, ld3, ld64, ld66, ln29, ln64, st66, mv1, mv2, mv3, mv4, mv5, n4, nk, wk]
          refine ⟨(k + 1, b4), by simp only; omega, ⟨rfl, rfl, rfl, rfl, rfl, trivial⟩, ⟨?_, rfl, hk2⟩, ?_⟩
          · simp only [Nat.add_mul, Nat.one_mul]; rfl
          · simp only [List.set_cons_zero, List.set_cons_succ]
            rw [List.take_succ_eq_append_getElem hk2, List.flatMap_append, List.flatMap_cons, List.flatMap_nil, List.append_nil, ← List.append_assoc]
            exact q11
        · have hkl : k = m.length := by have h5 := of_decide_eq_false u3; omega
          subst hkl
          rw [List.take_length] at q10
          have hlW : (W ++ m.flatMap fun n => le8 (n + 1000000000000)).length = W.length + m.length * 8 := by rw [List.length_append, le8s_len]
          simp -implicitDefEqProofs only [kz, kk0, kk1, kk2, kk3, ↓two_true, ↓two_false, mkv, aggAt, Nat.reduceLeDiff, Nat.reduceSub, Nat.reduceMul, implies_true, Nat.reduceEqDiff, reduceIte, Nat.reduceAdd, Nat.reduceBEq, reduceCtorEq, al66, ap22_22, bs22_1, bs22_2, bs22_5, cv3_5, fa63_0, fa63_1, fa63_2, fa66_0, fa66_1, fa66_2, fa66_3, ix29, ix64, ld3, ld64, ld66, ln29, ln64, st66, mv1, mv2, mv3, mv4, mv5, n4, nk, wi]
          refine ⟨(i + 1, b2), by simp only; omega, ⟨?_, ?_, trivial⟩, ⟨?_, rfl, hlt⟩, ?_⟩
          · first | rfl | exact mv1.trans lv1.symm
          · first | rfl | exact mv2.trans lv2.symm
          · rw [hpk, hlW]
          · simp only
            rw [hpk]
            exact q10.pick [3] _ rfl (by decide)
      · have ho1 : (op == 1) = false := beq_eq_false_iff_ne.2 hop
        simp -implicitDefEqProofs only [kz, kk0, kk1, kk2, kk3, ↓two_true, ↓two_false, mkv, aggAt, Nat.reduceLeDiff, Nat.reduceSub, Nat.reduceMul, implies_true, Nat.reduceEqDiff, reduceIte, Nat.reduceAdd, Nat.reduceBEq, reduceCtorEq, al66, ap22_22, bs22_1, bs22_2, bs22_5, cv3_5, fa63_0, fa63_1, fa63_2, fa66_0, fa66_1, fa66_2, fa66_3, ix29, ix64, ld3, ld64, ld66, ln29, ln64, st66, lv1, lv2, ki, k4, ho1, wi]
        have hpI : pkI ⟨op, ia, is, io, iw, m⟩ = [op, ia, is, io, iw].map IntKind.u8.wrap := by unfold pkI; rw [if_neg hop, List.append_nil]
        refine ⟨(i + 1, H6.length), by simp only; omega, ⟨rfl, rfl, trivial⟩, ⟨?_, rfl, hlt⟩, ?_⟩
        · rw [hpk, hpI, hWl]
        · simp only
          rw [hpk, hpI]
          exact q7.pick [2] _ rfl (by decide)
    · have hil : i = n := by have h5 := of_decide_eq_false u2; omega
      subst hil
      have hpg : pkT l l.length = pkG l := by unfold pkT pkG; rw [List.take_length]
      rw [hll] at hpg
      rw [hpg] at q3
      rw [hk, hpg]
      have hA : pkA l = pkG l := by unfold pkA; rw [if_pos hk]
      rw [hA]
      exact ⟨⟨_, rfl, .inr ⟨bo, rfl, q3.bxlt 0 rfl, q3.bx 0 rfl⟩⟩, q3.ext⟩

end Go.Proofs.Ytdagncfnkenbfaa.AM
