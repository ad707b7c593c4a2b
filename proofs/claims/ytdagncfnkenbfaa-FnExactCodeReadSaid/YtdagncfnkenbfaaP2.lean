/- What the functions answer, part 2. -/
import Derived.Test.YtdagncfnkenbfaaP1
set_option linter.unusedVariables false
set_option linter.unusedSimpArgs false
set_option linter.defProp false
set_option maxRecDepth 100000
/- What the functions answer, part 2. -/
namespace Go.Proofs.Ytdagncfnkenbfaa.AM
open Go Go.Proofs.Ytdagncfnkenbfaa Go.Proofs
theorem dAt_le {l : List Ins} : ∀ {i : Nat}, -(i : Int) ≤ dAt l i ∧ dAt l i ≤ i
  | 0 => by simp [dAt]
  | i + 1 => by
    have h := dAt_le (l := l) (i := i)
    cases hx : l[i]? with
    | none =>
      have hl : l.length ≤ i := List.getElem?_eq_none_iff.1 hx
      have : dAt l (i + 1) = dAt l i := by unfold dAt; rw [List.take_of_length_le (by omega), List.take_of_length_le hl]
      omega
    | some x =>
      rw [dAt_succ hx]
      have := tk_le (x := x)
      omega
theorem dOk_false {l : List Ins} {i : Nat} {x : Ins} (h : l[i]? = some x) (hd : dAt l i < tk x) : dOk l = false := by
  obtain ⟨h1, _⟩ := List.getElem?_eq_some_iff.1 h
  rw [Bool.eq_false_iff]
  intro ha
  have := (List.all_eq_true.1 ha) i (List.mem_range.2 h1)
  simp only [h, decide_eq_true_eq] at this
  omega
theorem dOk_true {l : List Ins} (h : ∀ (i : Nat) x, l[i]? = some x → tk x ≤ dAt l i) : dOk l = true := by
  refine List.all_eq_true.2 fun i _ => ?_
  split
  · rename_i x hx; simpa using h i x hx
  · rfl
theorem dL_get {l : List Ins} {i : Nat} (h : i ≤ l.length) : (dL l)[i]? = some (dAt l i) := by
  unfold dL
  rw [List.getElem?_map, List.getElem?_range (by omega)]
  rfl
theorem all2_instr {H : AH} {x : List Value} (h : All2 H kInstr x) : ∃ op a s o w y, x = [.int .i64 op, .int .i64 a, .int .i64 s, .int .i64 o, .int .i64 w, y] ∧ KOk H .r y ∧ insOf (x.map (cv H)) = ⟨op, a, s, o, w, rowI H y⟩ := by
  obtain ⟨y0, _, rfl, ⟨a0, rfl⟩, y1, _, rfl, ⟨a1, rfl⟩, y2, _, rfl, ⟨a2, rfl⟩, y3, _, rfl, ⟨a3, rfl⟩, y4, _, rfl, ⟨a4, rfl⟩, y5, _, rfl, k5, rfl⟩ := h
  refine ⟨a0, a1, a2, a3, a4, y5, rfl, k5, ?_⟩
  simp only [List.map_cons, List.map_nil, cv_row k5.1, cv_int, insOf]

theorem numsOk1_eq {x : Int} {H : AH} {Φ : Value → AH → Prop} : CallsA Try.prog 100 #[.int .i64 x] H Φ = Φ (.bool (!numOk x)) H := by
  have : CallsA Try.prog 100 #[.int .i64 x] H fun r H' => r = .bool (!numOk x) ∧ H' = H := by
    refine w100 ?_
    unfold k100
    simp -implicitDefEqProofs only [kz, kk0, kk1, kk2, kk3, ↓two_true, ↓two_false, oS_some, oM_some, mkv, aggAt, Nat.reduceLeDiff, Nat.reduceSub, Nat.reduceMul, implies_true, Nat.reduceEqDiff, reduceIte, Nat.reduceAdd, Nat.reduceBEq, reduceCtorEq, implNumOk_eq]
  exact this.eq0

set_option maxHeartbeats 4000000 in
theorem implNumsOk_ok {H : AH} {v : Value} {l : List Int} (hv : IntRow H v l) (hl : l.length < 4611686018427387904) : CallsA Try.prog 85 #[v] H fun r H' => r = .bool (numsOk l) ∧ H' = H := by
  have ec := fun Φ => (containsFuncI_ok (H := H) hv hl (fun x H Φ => numsOk1_eq)).eq0 (Φ := Φ)
  obtain ⟨a, c, rfl, _⟩ := hv.op
  refine w85 ?_
  unfold k85
  simp -implicitDefEqProofs only [kz, kk0, kk1, kk2, kk3, ↓two_true, ↓two_false, oS_some, oM_some, mkv, aggAt, Nat.reduceLeDiff, Nat.reduceSub, Nat.reduceMul, implies_true, Nat.reduceEqDiff, reduceIte, Nat.reduceAdd, Nat.reduceBEq, reduceCtorEq, ln64, ec, within_eq]
  unfold numsOk
  refine two_intro (fun h => ?_) (fun h => ?_)
  · rw [h, any_not]; simp
  · rw [h]; rfl
theorem implNumsOk_eq {H : AH} {v : Value} (hv : OkI H v) (hl : (rowI H v).length < 4611686018427387904) {Φ : Value → AH → Prop} : CallsA Try.prog 85 #[v] H Φ = Φ (.bool (numsOk (rowI H v))) H := (implNumsOk_ok hv hl).eq0

set_option maxHeartbeats 4000000 in
theorem l9Nums_ok {H : AH} {v : Value} {l : List Int} (hv : IntRow H v l) (hl : l.length < 4611686018427387904) : CallsA Try.prog 81 #[v] H fun r H' => r = .bool (numsOk l) ∧ H' = H := by
  obtain ⟨a, c, rfl, gv⟩ := hv.op
  refine w81 ?_
  unfold k81
  simp -implicitDefEqProofs only [kz, kk0, kk1, kk2, kk3, ↓two_true, ↓two_false, oS_some, oM_some, mkv, aggAt, Nat.reduceLeDiff, Nat.reduceSub, Nat.reduceMul, implies_true, Nat.reduceEqDiff, reduceIte, Nat.reduceAdd, Nat.reduceBEq, reduceCtorEq, ix64, ld3, ln64]
  refine rW_loop (σ := Nat) (fun i tm H' => tm 0 = .slice a l.length c ∧ tm 3 = .int .i64 i ∧ H' = H ∧ i ≤ l.length ∧ ∀ x ∈ l.take i, numOk x = true) (fun i => l.length - i) 0 ?_ ?_
  · simp -implicitDefEqProofs [kk0, kk1, kk2, kk3, rW_block, ↓two_true, ↓two_false, rW_cond, rO_guard, oS_some, oM_some, mkv, aggAt, Nat.reduceLeDiff, Nat.reduceSub, Nat.reduceMul, cond_true, cond_false, Option.bind_some, List.length_append, List.length_cons, List.length_nil, List.append_assoc, List.cons_append, List.nil_append, List.set_cons_zero, List.set_cons_succ, List.size_toArray, List.all_cons, List.all_nil, List.drop_zero, List.drop_succ_cons, List.take_succ_cons, List.take_zero, List.mem_cons, Prod.mk.injEq, List.not_mem_nil, implies_true, List.getElem?_toArray, List.getElem?_cons_zero, List.getElem?_cons_succ, List.getElem?_nil, Option.getD_some, Option.getD_none, Nat.reduceEqDiff, reduceIte, Nat.reduceAdd, List.map_toArray, List.map_cons, List.map_nil, Bool.false_eq_true, Nat.reduceBEq, Option.map_some, Option.map_none, reduceCtorEq, ix64, ld3, ln64]
  · rintro i tm H' ⟨h0, h3, rfl, hi, hn⟩
    simp -implicitDefEqProofs only [kz, kk0, kk1, kk2, kk3, ↓two_true, ↓two_false, oS_some, oM_some, mkv, aggAt, Nat.reduceLeDiff, Nat.reduceSub, Nat.reduceMul, implies_true, Nat.reduceEqDiff, reduceIte, Nat.reduceAdd, Nat.reduceBEq, reduceCtorEq, ix64, ld3, ln64, h0, h3, l1In_eq]
    refine two_intro (fun hc => ?_) (fun hc => ?_)
    · have hc' : i < l.length := by simpa using hc
      obtain ⟨b, o, cs, rfl, rfl, hrd, _, hcell⟩ := gv (by omega)
      simp -implicitDefEqProofs only [kz, kk0, kk1, kk2, kk3, ↓two_true, ↓two_false, oS_some, oM_some, mkv, aggAt, Nat.reduceLeDiff, Nat.reduceSub, Nat.reduceMul, implies_true, Nat.reduceEqDiff, reduceIte, Nat.reduceAdd, Nat.reduceBEq, reduceCtorEq, ix64, ld3, ln64, h0, h3, specNumOk_eq, Int.toNat_natCast, Nat.mul_one, hrd, hcell i hc', IntWalk.i64_in (↑i + 1) (by omega)]
      refine ⟨⟨by omega, by omega⟩, two_intro (fun h => ?_) (fun h => ?_)⟩
      · have hb : numOk l[i] = false := by simpa using h
        rw [numsOk, all_take_false hc' hb]
        simp
      · refine ⟨i + 1, by omega, by simp, hc', fun x hx => ?_⟩
        rw [List.take_succ_eq_append_getElem hc'] at hx
        rcases List.mem_append.1 hx with hx | hx
        · exact hn x hx
        · rw [List.mem_singleton.1 hx]; simpa using h
    · have hc' : ¬ i < l.length := by simpa using hc
      have hil : i = l.length := by omega
      subst hil
      rw [List.take_length] at hn
      have hall : l.all numOk = true := List.all_eq_true.2 hn
      rw [numsOk, hall]
      simp
theorem l9Nums_eq {H : AH} {v : Value} (hv : OkI H v) (hl : (rowI H v).length < 4611686018427387904) {Φ : Value → AH → Prop} : CallsA Try.prog 81 #[v] H Φ = Φ (.bool (numsOk (rowI H v))) H := (l9Nums_ok hv hl).eq0

set_option maxHeartbeats 4000000 in
theorem implInstrOk_el {H : AH} {x : List Value} (hx : All2 H kInstr x) : CallsA Try.prog 61 #[.agg x.toArray] H fun r H' => r = .bool (insOk (insOf (x.map (cv H)))) ∧ ∃ K, H' = H ++ K := by
  obtain ⟨op, a, s, o, w, y, rfl, ky, e⟩ := all2_instr hx
  rw [e]
  obtain ⟨a', c', e1⟩ := ky.1.slice
  have i1 : IntRow H y (rowI H y) := ky.1
  have w1 := ky.2
  generalize rowI H y = m at *
  subst e1
  have en := fun (L : AH) Φ => implNumsOk_eq (H := H ++ L) (Φ := Φ) i1.mono.ok (by rw [i1.mono.row]; omega)
  have er := fun (L : AH) => (i1.mono (L := L)).row
  refine w61 ?_
  unfold k61
  simp -implicitDefEqProofs only [kz, kk0, kk1, kk2, kk3, ↓two_true, ↓two_false, oS_some, oM_some, mkv, aggAt, Nat.reduceLeDiff, Nat.reduceSub, Nat.reduceMul, implies_true, Nat.reduceEqDiff, reduceIte, Nat.reduceAdd, Nat.reduceBEq, reduceCtorEq, bd63, ef63, eg63, fa66_0, fa66_1, fa66_2, fa66_3, ld3, ld63, ld64, ln64, en, er, within_eq, implFunOne_eq, implFunTwo_eq]
  simp +contextual [two, insOk]

set_option maxHeartbeats 4000000 in
theorem l11Instr_el {H : AH} {x : List Value} (hx : All2 H kInstr x) : CallsA Try.prog 66 #[.agg x.toArray] H fun r H' => r = .bool (insOk (insOf (x.map (cv H)))) ∧ ∃ K, H' = H ++ K := by
  obtain ⟨op, a, s, o, w, y, rfl, ky, e⟩ := all2_instr hx
  rw [e]
  obtain ⟨a', c', e1⟩ := ky.1.slice
  have i1 : IntRow H y (rowI H y) := ky.1
  have w1 := ky.2
  generalize rowI H y = m at *
  subst e1
  have en := fun (L : AH) Φ => l9Nums_eq (H := H ++ L) (Φ := Φ) i1.mono.ok (by rw [i1.mono.row]; omega)
  have er := fun (L : AH) => (i1.mono (L := L)).row
  refine w66 ?_
  unfold k66
  simp -implicitDefEqProofs only [kz, kk0, kk1, kk2, kk3, ↓two_true, ↓two_false, oS_some, oM_some, mkv, aggAt, Nat.reduceLeDiff, Nat.reduceSub, Nat.reduceMul, implies_true, Nat.reduceEqDiff, reduceIte, Nat.reduceAdd, Nat.reduceBEq, reduceCtorEq, al63, bd63, ef63, eg63, fa66_0, fa66_1, fa66_2, fa66_3, ld3, ld63, ld64, ln64, st63, en, er, l1In_eq, specFunOne_eq, specFunTwo_eq]
  simp +contextual [two, insOk]

set_option maxHeartbeats 4000000 in
theorem takes_el {H : AH} {x : List Value} (hx : All2 H kInstr x) : CallsA Try.prog 88 #[.agg x.toArray] H fun r H' => r = .int .i64 (tk (insOf (x.map (cv H)))) ∧ ∃ K, H' = H ++ K := by
  obtain ⟨op, a, s, o, w, y, rfl, ky, e⟩ := all2_instr hx
  rw [e]
  obtain ⟨a', c', e1⟩ := ky.1.slice
  generalize rowI H y = m at *
  subst e1
  refine w88 ?_
  unfold k88
  simp -implicitDefEqProofs only [kz, kk0, kk1, kk2, kk3, ↓two_true, ↓two_false, oS_some, oM_some, mkv, aggAt, Nat.reduceLeDiff, Nat.reduceSub, Nat.reduceMul, implies_true, Nat.reduceEqDiff, reduceIte, Nat.reduceAdd, Nat.reduceBEq, reduceCtorEq, fa66_0, ld3]
  simp +contextual [two, tk]

set_option maxHeartbeats 4000000 in
theorem l11Takes_el {H : AH} {x : List Value} (hx : All2 H kInstr x) (ho : insOk (insOf (x.map (cv H))) = true) : CallsA Try.prog 90 #[.agg x.toArray] H fun r H' => r = .tuple #[.int .i64 (tk (insOf (x.map (cv H)))), .int .i64 (1 - tk (insOf (x.map (cv H))))] ∧ ∃ K, H' = H ++ K := by
  obtain ⟨op, a, s, o, w, y, rfl, ky, e⟩ := all2_instr hx
  rw [e] at ho ⊢
  obtain ⟨a', c', e1⟩ := ky.1.slice
  generalize rowI H y = m at *
  subst e1
  refine w90 ?_
  unfold k90
  simp -implicitDefEqProofs only [kz, kk0, kk1, kk2, kk3, ↓two_true, ↓two_false, oS_some, oM_some, mkv, aggAt, Nat.reduceLeDiff, Nat.reduceSub, Nat.reduceMul, implies_true, Nat.reduceEqDiff, reduceIte, Nat.reduceAdd, Nat.reduceBEq, reduceCtorEq, fa66_0, ld3]
  have hop : op = 1 ∨ op = 2 ∨ op = 3 ∨ op = 4 ∨ op = 5 := by
    simp only [insOk, Bool.or_eq_true, Bool.and_eq_true, beq_iff_eq] at ho
    omega
  rcases hop with rfl | rfl | rfl | rfl | rfl <;> simp [two, tk]
theorem dl_snoc {l : List Ins} {i : Nat} : (List.range (i + 1)).map (dAt l) ++ [dAt l (i + 1)] = (List.range (i + 1 + 1)).map (dAt l) := by
  rw [List.range_succ (n := i + 1), List.map_append]; rfl
theorem dl_get {l : List Ins} {i : Nat} : ((List.range (i + 1)).map (dAt l))[i]? = some (dAt l i) := by
  rw [List.getElem?_map, List.getElem?_range (by omega)]; rfl

set_option maxHeartbeats 4000000 in
theorem deep_ok {H : AH} {v : Value} {n : Nat} {xs : List Value} (hv : FRow H v kInstr n xs) (hl : n ≤ 1048576) :
    CallsA Try.prog 57 #[v] H fun r H' => (∃ w, r = .tuple #[w, .bool (dOk (insL (cvs H xs) n))] ∧ (dOk (insL (cvs H xs) n) = true → OwnRow H' w (dL (insL (cvs H xs) n)) ∧ ∀ b, blkOf w = some b → H.length ≤ b)) ∧ ∃ K, H' = H ++ K := by
  obtain ⟨a, c, rfl, gv⟩ := hv.opn 6 rfl
  generalize hL : insL (cvs H xs) n = l
  have hll : l.length = n := by rw [← hL, insL_len]
  refine w57 ?_
  unfold k57
  simp -implicitDefEqProofs only [kz, kk0, kk1, kk2, kk3, ↓two_true, ↓two_false, oS_some, oM_some, mkv, aggAt, Nat.reduceLeDiff, Nat.reduceSub, Nat.reduceMul, implies_true, Nat.reduceEqDiff, reduceIte, Nat.reduceAdd, Nat.reduceBEq, reduceCtorEq, al66, ap64_64, bs64_1, ix29, ix64, ld3, ld66, ln29, st66]
  refine rW_loop (σ := Nat × Option Addr × Nat) (fun (i, a', c') tm H' => tm 8 = .slice a n c ∧ tm 9 = .int .i64 n ∧ tm 10 = .int .i64 i ∧ tm 4 = .slice a' (i + 1) c' ∧ i ≤ n ∧ OwnRow H' (.slice a' (i + 1) c') ((List.range (i + 1)).map (dAt l)) ∧ (∀ b, blkOf (.slice a' (i + 1) c') = some b → H.length ≤ b) ∧ (∃ K, H' = H ++ K) ∧ ∀ (j : Nat) x, j < i → l[j]? = some x → tk x ≤ dAt l j) (fun s => n - s.1) (0, some ⟨H.length, 0, none⟩, 1) ?_ ?_
  · simp -implicitDefEqProofs [kk0, kk1, kk2, kk3, rW_block, ↓two_true, ↓two_false, rW_cond, rO_guard, oS_some, oM_some, mkv, aggAt, Nat.reduceLeDiff, Nat.reduceSub, Nat.reduceMul, cond_true, cond_false, Option.bind_some, List.length_append, List.length_cons, List.length_nil, List.append_assoc, List.cons_append, List.nil_append, List.set_cons_zero, List.set_cons_succ, List.size_toArray, List.all_cons, List.all_nil, List.drop_zero, List.drop_succ_cons, List.take_succ_cons, List.take_zero, List.mem_cons, Prod.mk.injEq, List.not_mem_nil, implies_true, List.getElem?_toArray, List.getElem?_cons_zero, List.getElem?_cons_succ, List.getElem?_nil, Option.getD_some, Option.getD_none, Nat.reduceEqDiff, reduceIte, Nat.reduceAdd, List.map_toArray, List.map_cons, List.map_nil, Bool.false_eq_true, Nat.reduceBEq, Option.map_some, Option.map_none, reduceCtorEq, al66, ap64_64, bs64_1, ix29, ix64, ld3, ld66, ln29, st66]
    refine ⟨?_, ?_⟩
    · exact .inr ⟨H.length, 0, [.int .i64 0], rfl, by rw [gt0]; rfl, by simp, by simp [ints, dAt]⟩
    · intro b hb; simp [blkOf] at hb; omega
  · rintro ⟨i, a', c'⟩ tm H1 ⟨h8, h9, h10, h4, hi, ho, hf, he, hd⟩
    simp -implicitDefEqProofs only [kz, kk0, kk1, kk2, kk3, ↓two_true, ↓two_false, oS_some, oM_some, mkv, aggAt, Nat.reduceLeDiff, Nat.reduceSub, Nat.reduceMul, implies_true, Nat.reduceEqDiff, reduceIte, Nat.reduceAdd, Nat.reduceBEq, reduceCtorEq, al66, ap64_64, bs64_1, ix29, ix64, ld3, ld66, ln29, st66, h8, h9, h10, h4]
    refine two_intro (fun hc' => ?_) (fun hc' => ?_)
    · have hlt : i < n := by simpa using hc'
      obtain ⟨b, o, cs, rfl, rfl, hrd, hle, hcell⟩ := gv (by omega)
      have x1 := hv.elemn 6 rfl hlt
      have hin : l[i]? = some (insOf ((elm 6 xs i).map (cv H))) := by rw [← hL]; exact insL_get hlt
      have hlen := ext_len he
      have x2 : All2 H1 kInstr (elm 6 xs i) ∧ (elm 6 xs i).map (cv H1) = (elm 6 xs i).map (cv H) := by
        obtain ⟨K, rfl⟩ := he
        exact ⟨x1.mono, x1.mapcv⟩
      have g1 : rd H1 b = some cs := by obtain ⟨K, rfl⟩ := he; rw [rdl (by simp [hrd]), hrd]
      have l1 : ld Try.prog 66 (o + i * 6) cs = some (.agg (elm 6 xs i).toArray) := by rw [ld66]; exact (hcell i hlt).1
      obtain ⟨b2, o2, cs2, e2, hb2, hle2, hcs2⟩ := ho.blk (by simp)
      simp only [Value.slice.injEq, List.length_map, List.length_range] at e2
      obtain ⟨rfl, _, rfl⟩ := e2
      have hcell2 : cs2[o2 + i]? = some (.int .i64 (dAt l i)) := hcs2 i _ dl_get
      obtain ⟨op, ia, is, io, iw, y, ex, ky, ei⟩ := all2_instr x2.1
      rw [← x2.2] at hin
      generalize elm 6 xs i = x at *
      generalize hvv : x.map (cv H1) = vv at *
      obtain ⟨a5, c5, e5⟩ := ky.1.slice
      generalize rowI H1 y = m at *
      subst e5
      subst ex
      have gb : ∀ L, rd (H1 ++ L) b2 = some cs2 := fun L => rd_own (gtl hb2)
      simp -implicitDefEqProofs only [kz, kk0, kk1, kk2, kk3, ↓two_true, ↓two_false, oS_some, oM_some, mkv, aggAt, Nat.reduceLeDiff, Nat.reduceSub, Nat.reduceMul, implies_true, Nat.reduceEqDiff, reduceIte, Nat.reduceAdd, Nat.reduceBEq, reduceCtorEq, al66, ap64_64, bs64_1, ix29, ix64, ld3, ld66, ln29, st66, h8, h9, h10, h4, Int.toNat_natCast, Nat.mul_one, g1, l1, gb, hcell2]
      have x3 : All2 (H1 ++ [⟨[.int .i64 op, .int .i64 ia, .int .i64 is, .int .i64 io, .int .i64 iw, .slice a5 m.length c5], .own⟩]) kInstr _ := x2.1.mono
      have x4 := hvv ▸ x2.1.mapcv (L := [⟨[.int .i64 op, .int .i64 ia, .int .i64 is, .int .i64 io, .int .i64 iw, .slice a5 m.length c5], .own⟩])
      have hb0 : (H1 ++ [⟨[.int .i64 op, .int .i64 ia, .int .i64 is, .int .i64 io, .int .i64 iw, .slice a5 m.length c5], .own⟩] : AH)[H1.length]? = some ⟨[.int .i64 op, .int .i64 ia, .int .i64 is, .int .i64 io, .int .i64 iw, .slice a5 m.length c5], .own⟩ := by rw [gt0]; rfl
      have hb3 := gtl (L := [⟨[.int .i64 op, .int .i64 ia, .int .i64 is, .int .i64 io, .int .i64 iw, .slice a5 m.length c5], .own⟩]) hb2
      have he2 := app_ext (L := [⟨[.int .i64 op, .int .i64 ia, .int .i64 is, .int .i64 io, .int .i64 iw, .slice a5 m.length c5], .own⟩]) he
      have ho2 := ho.mono (L := [⟨[.int .i64 op, .int .i64 ia, .int .i64 is, .int .i64 io, .int .i64 iw, .slice a5 m.length c5], .own⟩])
      have hlm : (H1 ++ [⟨[.int .i64 op, .int .i64 ia, .int .i64 is, .int .i64 io, .int .i64 iw, .slice a5 m.length c5], .own⟩] : AH).length = H1.length + 1 := by simp
      generalize (H1 ++ [⟨[.int .i64 op, .int .i64 ia, .int .i64 is, .int .i64 io, .int .i64 iw, .slice a5 m.length c5], .own⟩] : AH) = H2 at *
      have r0 := rd_own hb0
      have r3 := rd_own hb3
      refine ⟨⟨by omega, by omega⟩, ⟨by omega, by omega⟩, (takes_el x3).mono ?_⟩
      rintro _ H3 ⟨rfl, K3, rfl⟩
      rw [x4]
      have r4 : rd (H2 ++ K3) H1.length = _ := rd_own (gtl hb0)
      have r5 : rd (H2 ++ K3) b2 = _ := rd_own (gtl hb3)
      have ho3 := ho2.mono (L := K3)
      have he3 := app_ext (L := K3) he2
      have x5 := x3.mono (L := K3)
      have x6 : _ = _ := x3.mapcv (L := K3)
      rw [x4] at x6
      have hb4 := gtl (L := K3) hb0
      have hb5 := gtl (L := K3) hb3
      have hlm3 : H2.length ≤ (H2 ++ K3).length := by simp
      generalize (H2 ++ K3) = H3 at *
      simp -implicitDefEqProofs only [kz, kk0, kk1, kk2, kk3, ↓two_true, ↓two_false, oS_some, oM_some, mkv, aggAt, Nat.reduceLeDiff, Nat.reduceSub, Nat.reduceMul, implies_true, Nat.reduceEqDiff, reduceIte, Nat.reduceAdd, Nat.reduceBEq, reduceCtorEq, al66, ap64_64, bs64_1, ix29, ix64, ld3, ld66, ln29, st66, h8, h9, h10, h4, Int.toNat_natCast, Nat.mul_one, r0, r3, r4, r5, hcell2]
      refine two_intro (fun h => ?_) (fun h => ?_)
      · have hlt2 : dAt l i < tk (insOf vv) := by simpa using h
        rw [dOk_false hin hlt2]
        exact ⟨⟨_, rfl, fun h => by cases h⟩, he3⟩
      · have hle3 : tk (insOf vv) ≤ dAt l i := by simp at h; omega
        have hsucc := dAt_succ hin
        have ht := tk_le (x := insOf vv)
        generalize htt : tk (insOf vv) = t at *
        refine ⟨⟨by omega, by omega⟩, (takes_el x5).mono ?_⟩
        rintro _ H4 ⟨rfl, hK4⟩
        rw [x6, htt]
        have ho4 := ho3.ext hK4
        have he4 := ext_trans he3 hK4
        have r6 := rd_ext r4 hK4
        have r7 := rd_ext r5 hK4
        have hd1 := dAt_le (l := l) (i := i)
        have w1 : IntKind.i64.wrap (dAt l i - t) = dAt l i - t := IntWalk.i64_in _ (by omega)
        have w2 : IntKind.i64.wrap (dAt l i - t + 1) = dAt l i - t + 1 := IntWalk.i64_in _ (by omega)
        simp -implicitDefEqProofs only [kz, kk0, kk1, kk2, kk3, ↓two_true, ↓two_false, oS_some, oM_some, mkv, aggAt, Nat.reduceLeDiff, Nat.reduceSub, Nat.reduceMul, implies_true, Nat.reduceEqDiff, reduceIte, Nat.reduceAdd, Nat.reduceBEq, reduceCtorEq, al66, ap64_64, bs64_1, ix29, ix64, ld3, ld66, ln29, st66, h8, h9, h10, h4, Int.toNat_natCast, Nat.mul_one, r4, r5, r6, r7, hcell2, w1, w2]
        refine oA_own ho4.mono intRow1 (by simp; omega) fun a6 c6 H5 o6 x7 => ?_
        have hff : ∀ b, blkOf (.slice a6 (((List.range (i + 1)).map (dAt l)).length + [dAt l i - t + 1].length) c6) = some b → H.length ≤ b := fun b hb => by
          rcases x7.new b hb with h | h
          · exact hf b h
          · have := ext_len he4; simp at h; omega
        have he5 := x7.ext (app_ext he4) hf
        simp -implicitDefEqProofs only [kz, kk0, kk1, kk2, kk3, ↓two_true, ↓two_false, oS_some, oM_some, mkv, aggAt, Nat.reduceLeDiff, Nat.reduceSub, Nat.reduceMul, implies_true, Nat.reduceEqDiff, reduceIte, Nat.reduceAdd, Nat.reduceBEq, reduceCtorEq, al66, ap64_64, bs64_1, ix29, ix64, ld3, ld66, ln29, st66, h8, h9, h10, h4, List.length_map, List.length_range, IntWalk.i64_in (↑i + 1) (by omega)]
        rw [show dAt l i - t + 1 = dAt l (i + 1) by omega, dl_snoc] at o6
        simp only [List.length_map, List.length_range, List.length_cons, List.length_nil, Nat.zero_add] at o6 hff
        exact ⟨(i + 1, a6, c6), by simp only; omega, by simp, rfl, hlt, o6, hff, he5, fun j x hj hx => by
          rcases Nat.lt_or_ge j i with h1 | h1
          · exact hd j x h1 hx
          · have : j = i := by omega
            subst this
            rw [hin] at hx; cases hx; omega⟩
    · have hil : i = n := by have : ¬ i < n := by simpa using hc'
                             omega
      subst hil
      have hdk : dOk l = true := dOk_true fun j x hx => hd j x (by have := (List.getElem?_eq_some_iff.1 hx).1; omega) hx
      rw [hdk]
      refine ⟨⟨_, rfl, fun _ => ⟨?_, hf⟩⟩, he⟩
      unfold dL
      rw [hll]; exact ho

set_option maxHeartbeats 4000000 in
theorem l11Depths_ok {H : AH} {v : Value} {n : Nat} {xs : List Value} (hv : FRow H v kInstr n xs) (hl : n ≤ 1048576) (hok : (insL (cvs H xs) n).all insOk = true) :
    CallsA Try.prog 63 #[v] H fun r H' => (∃ w, r = .tuple #[w, .bool (dOk (insL (cvs H xs) n))] ∧ (dOk (insL (cvs H xs) n) = true → OwnRow H' w (dL (insL (cvs H xs) n)) ∧ ∀ b, blkOf w = some b → H.length ≤ b)) ∧ ∃ K, H' = H ++ K := by
  obtain ⟨a, c, rfl, gv⟩ := hv.opn 6 rfl
  generalize hL : insL (cvs H xs) n = l at *
  have hll : l.length = n := by rw [← hL, insL_len]
  refine w63 ?_
  unfold k63
  simp -implicitDefEqProofs only [kz, kk0, kk1, kk2, kk3, ↓two_true, ↓two_false, oS_some, oM_some, mkv, aggAt, Nat.reduceLeDiff, Nat.reduceSub, Nat.reduceMul, implies_true, Nat.reduceEqDiff, reduceIte, Nat.reduceAdd, Nat.reduceBEq, reduceCtorEq, ap64_64, bs64_1, ix29, ld66, ln29]
  refine rW_loop (σ := Nat × Option Addr × Nat) (fun (i, a', c') tm H' => tm 0 = .slice a n c ∧ tm 6 = .int .i64 i ∧ tm 5 = .int .i64 (dAt l i) ∧ tm 4 = .slice a' (i + 1) c' ∧ i ≤ n ∧ OwnRow H' (.slice a' (i + 1) c') ((List.range (i + 1)).map (dAt l)) ∧ (∀ b, blkOf (.slice a' (i + 1) c') = some b → H.length ≤ b) ∧ (∃ K, H' = H ++ K) ∧ ∀ (j : Nat) x, j < i → l[j]? = some x → tk x ≤ dAt l j) (fun s => n - s.1) (0, some ⟨H.length, 0, none⟩, 1) ?_ ?_
  · simp -implicitDefEqProofs [kk0, kk1, kk2, kk3, rW_block, ↓two_true, ↓two_false, rW_cond, rO_guard, oS_some, oM_some, mkv, aggAt, Nat.reduceLeDiff, Nat.reduceSub, Nat.reduceMul, cond_true, cond_false, Option.bind_some, List.length_append, List.length_cons, List.length_nil, List.append_assoc, List.cons_append, List.nil_append, List.set_cons_zero, List.set_cons_succ, List.size_toArray, List.all_cons, List.all_nil, List.drop_zero, List.drop_succ_cons, List.take_succ_cons, List.take_zero, List.mem_cons, Prod.mk.injEq, List.not_mem_nil, implies_true, List.getElem?_toArray, List.getElem?_cons_zero, List.getElem?_cons_succ, List.getElem?_nil, Option.getD_some, Option.getD_none, Nat.reduceEqDiff, reduceIte, Nat.reduceAdd, List.map_toArray, List.map_cons, List.map_nil, Bool.false_eq_true, Nat.reduceBEq, Option.map_some, Option.map_none, reduceCtorEq, ap64_64, bs64_1, ix29, ld66, ln29, show dAt l 0 = 0 from rfl]
    refine ⟨?_, ?_⟩
    · exact .inr ⟨H.length, 0, [.int .i64 0], rfl, by rw [gt0]; rfl, by simp, by simp [ints]⟩
    · intro b hb; simp [blkOf] at hb; omega
  · rintro ⟨i, a', c'⟩ tm H1 ⟨h0, h6, h5, h4, hi, ho, hf, he, hd⟩
    simp -implicitDefEqProofs only [kz, kk0, kk1, kk2, kk3, ↓two_true, ↓two_false, oS_some, oM_some, mkv, aggAt, Nat.reduceLeDiff, Nat.reduceSub, Nat.reduceMul, implies_true, Nat.reduceEqDiff, reduceIte, Nat.reduceAdd, Nat.reduceBEq, reduceCtorEq, ap64_64, bs64_1, ix29, ld66, ln29, h0, h6, h5, h4]
    refine two_intro (fun hc' => ?_) (fun hc' => ?_)
    · have hlt : i < n := by simpa using hc'
      obtain ⟨b, o, cs, rfl, rfl, hrd, hle, hcell⟩ := gv (by omega)
      have x1 := hv.elemn 6 rfl hlt
      have hin : l[i]? = some (insOf ((elm 6 xs i).map (cv H))) := by rw [← hL]; exact insL_get hlt
      have hio : insOk (insOf ((elm 6 xs i).map (cv H))) = true := (List.all_eq_true.1 hok) _ (List.mem_of_getElem? hin)
      obtain ⟨x2, x3⟩ := x1.ext he
      have g1 := rd_ext hrd he
      have l1 : ld Try.prog 66 (o + i * 6) cs = some (.agg (elm 6 xs i).toArray) := by rw [ld66]; exact (hcell i hlt).1
      simp -implicitDefEqProofs only [kz, kk0, kk1, kk2, kk3, ↓two_true, ↓two_false, oS_some, oM_some, mkv, aggAt, Nat.reduceLeDiff, Nat.reduceSub, Nat.reduceMul, implies_true, Nat.reduceEqDiff, reduceIte, Nat.reduceAdd, Nat.reduceBEq, reduceCtorEq, ap64_64, bs64_1, ix29, ld66, ln29, h0, h6, h5, h4, Int.toNat_natCast, Nat.mul_one, g1, l1]
      refine ⟨⟨by omega, by omega⟩, (l11Takes_el x2 (by rw [x3]; exact hio)).mono ?_⟩
      rintro _ H2 ⟨rfl, hK2⟩
      rw [x3]
      have he2 := ext_trans he hK2
      have ho2 := ho.ext hK2
      have hsucc := dAt_succ hin
      have ht := tk_le (x := insOf ((elm 6 xs i).map (cv H)))
      have hd1 := dAt_le (l := l) (i := i)
      generalize hvv : insOf ((elm 6 xs i).map (cv H)) = vv at *
      have w2 : IntKind.i64.wrap (dAt l i + (1 - tk vv)) = dAt l (i + 1) := by rw [IntWalk.i64_in _ (by omega)]; omega
      simp -implicitDefEqProofs only [kz, kk0, kk1, kk2, kk3, ↓two_true, ↓two_false, oS_some, oM_some, mkv, aggAt, Nat.reduceLeDiff, Nat.reduceSub, Nat.reduceMul, implies_true, Nat.reduceEqDiff, reduceIte, Nat.reduceAdd, Nat.reduceBEq, reduceCtorEq, ap64_64, bs64_1, ix29, ld66, ln29, h0, h6, h5, h4, w2]
      refine two_intro (fun h => ?_) (fun h => ?_)
      · have hlt2 : dAt l i < tk vv := by simpa using h
        rw [dOk_false hin hlt2]
        exact ⟨⟨_, rfl, fun h => by cases h⟩, he2⟩
      · have hle3 : tk vv ≤ dAt l i := by simp at h; omega
        refine oA_own ho2.mono intRow1 (by simp; omega) fun a6 c6 H5 o6 x7 => ?_
        have hff : ∀ b, blkOf (.slice a6 (((List.range (i + 1)).map (dAt l)).length + [dAt l (i + 1)].length) c6) = some b → H.length ≤ b := fun b hb => by
          rcases x7.new b hb with h | h
          · exact hf b h
          · have := ext_len he2; simp at h; omega
        have he5 := x7.ext (app_ext he2) hf
        simp -implicitDefEqProofs only [kz, kk0, kk1, kk2, kk3, ↓two_true, ↓two_false, oS_some, oM_some, mkv, aggAt, Nat.reduceLeDiff, Nat.reduceSub, Nat.reduceMul, implies_true, Nat.reduceEqDiff, reduceIte, Nat.reduceAdd, Nat.reduceBEq, reduceCtorEq, ap64_64, bs64_1, ix29, ld66, ln29, h0, h6, h5, h4, List.length_map, List.length_range, IntWalk.i64_in (↑i + 1) (by omega)]
        rw [dl_snoc] at o6
        simp only [List.length_map, List.length_range, List.length_cons, List.length_nil, Nat.zero_add] at o6 hff
        exact ⟨(i + 1, a6, c6), by simp only; omega, by simp, rfl, rfl, hlt, o6, hff, he5, fun j x hj hx => by
          rcases Nat.lt_or_ge j i with h1 | h1
          · exact hd j x h1 hx
          · have : j = i := by omega
            subst this
            rw [hin] at hx; cases hx; omega⟩
    · have hil : i = n := by have : ¬ i < n := by simpa using hc'
                             omega
      subst hil
      have hdk : dOk l = true := dOk_true fun j x hx => hd j x (by have := (List.getElem?_eq_some_iff.1 hx).1; omega) hx
      rw [hdk]
      refine ⟨⟨_, rfl, fun _ => ⟨?_, hf⟩⟩, he⟩
      unfold dL
      rw [hll]; exact ho

set_option maxHeartbeats 4000000 in
theorem codeOk1_el {H : AH} {x : List Value} (hx : All2 H kInstr x) : CallsA Try.prog 60 #[.agg x.toArray] H fun r H' => r = .bool (!insOk (insOf (x.map (cv H)))) ∧ ∃ K, H' = H ++ K := by
  have hl : x.length = 6 := hx.len
  have et : x.take 6 = x := List.take_of_length_le (by omega)
  have e := fun (L : AH) Φ => (implInstrOk_el (hx.mono (L := L))).eqV (Φ := Φ)
  simp only [hx.mapcv] at e
  refine w60 ?_
  unfold k60
  simp -implicitDefEqProofs only [kz, kk0, kk1, kk2, kk3, ↓two_true, ↓two_false, oS_some, oM_some, mkv, aggAt, Nat.reduceLeDiff, Nat.reduceSub, Nat.reduceMul, implies_true, Nat.reduceEqDiff, reduceIte, Nat.reduceAdd, Nat.reduceBEq, reduceCtorEq, ld66, et, e]
  exact ⟨by omega, _, rfl⟩
theorem any_ins {V : List CV} {n : Nat} : ((chunk 6 V n).any fun V => !insOk (insOf V)) = !(insL V n).all insOk := by
  unfold insL
  rw [List.all_map, List.not_all_eq_any_not]
  rfl

set_option maxHeartbeats 4000000 in
theorem implCodeOk_ok {H : AH} {v : Value} {n : Nat} {xs : List Value} (hv : FRow H v kInstr n xs) (hl : n ≤ 1048576) :
    CallsA Try.prog 26 #[v] H fun r H' => r = .bool (cdOk (insL (cvs H xs) n)) ∧ ∃ K, H' = H ++ K := by
  have ec := fun Φ => (containsFuncInstr_ok (g := 60) (p := fun V => !insOk (insOf V)) hv (by omega) (fun L x hx => codeOk1_el hx)).eqV (Φ := Φ)
  rw [any_ins] at ec
  obtain ⟨a, c, rfl, gv⟩ := hv.opn 6 rfl
  have hll : (insL (cvs H xs) n).length = n := insL_len
  have hcd : cdOk (insL (cvs H xs) n) = (inB n 1 60 && ((insL (cvs H xs) n).all insOk && (dOk (insL (cvs H xs) n) && dAt (insL (cvs H xs) n) n == 1))) := by
    unfold cdOk; rw [hll]
  rw [hcd]
  refine w26 ?_
  unfold k26
  simp -implicitDefEqProofs only [kz, kk0, kk1, kk2, kk3, ↓two_true, ↓two_false, oS_some, oM_some, mkv, aggAt, Nat.reduceLeDiff, Nat.reduceSub, Nat.reduceMul, implies_true, Nat.reduceEqDiff, reduceIte, Nat.reduceAdd, Nat.reduceBEq, reduceCtorEq, ix64, ld3, ln29, within_eq, ec]
  generalize hJ : jk Try.prog 59 #[.slice a n c, .func (.func 60) #[] #[]] H = J
  refine two_intro (fun h1 => ?_) (fun h1 => ?_)
  · rw [show inB n 1 60 = false by simpa using h1]
    exact ⟨rfl, [], by simp⟩
  · rw [show inB n 1 60 = true by simpa using h1]
    refine two_intro (fun h2 => ?_) (fun h2 => ?_)
    · have h3 : (insL (cvs H xs) n).all insOk = false := by simpa using h2
      rw [h3]
      exact ⟨rfl, _, rfl⟩
    · have h3 : (insL (cvs H xs) n).all insOk = true := by simpa using h2
      rw [h3]
      have hd := deep_ok (hv.mono (L := J)) hl
      rw [hv.vals] at hd
      refine hd.mono ?_
      rintro _ H2 ⟨⟨w, rfl, hw⟩, hK⟩
      simp -implicitDefEqProofs only [kz, kk0, kk1, kk2, kk3, ↓two_true, ↓two_false, oS_some, oM_some, mkv, aggAt, Nat.reduceLeDiff, Nat.reduceSub, Nat.reduceMul, implies_true, Nat.reduceEqDiff, reduceIte, Nat.reduceAdd, Nat.reduceBEq, reduceCtorEq, ix64, ld3, ln29]
      refine two_intro (fun h4 => ?_) (fun h4 => ?_)
      · rw [h4]
        obtain ⟨ow, _⟩ := hw h4
        obtain ⟨b2, o2, cs2, rfl, hb2, hle2, hcs2⟩ := ow.blk (by simp [dL])
        have hdl : (dL (insL (cvs H xs) n)).length = n + 1 := by simp [dL, hll]
        have hg := hcs2 n _ (dL_get (by omega))
        rw [hdl]
        simp -implicitDefEqProofs only [kz, kk0, kk1, kk2, kk3, ↓two_true, ↓two_false, oS_some, oM_some, mkv, aggAt, Nat.reduceLeDiff, Nat.reduceSub, Nat.reduceMul, implies_true, Nat.reduceEqDiff, reduceIte, Nat.reduceAdd, Nat.reduceBEq, reduceCtorEq, ix64, ld3, ln29, Int.toNat_natCast, Nat.mul_one, rd_own hb2, hg]
        exact ⟨⟨by omega, by omega⟩, by simp, ext_trans ⟨_, rfl⟩ hK⟩
      · rw [h4]
        exact ⟨rfl, ext_trans ⟨_, rfl⟩ hK⟩

set_option maxHeartbeats 4000000 in
theorem specCodeOk_ok {H : AH} {v : Value} {n : Nat} {xs : List Value} (hv : FRow H v kInstr n xs) (hl : n ≤ 1048576) :
    CallsA Try.prog 30 #[v] H fun r H' => r = .bool (cdOk (insL (cvs H xs) n)) ∧ ∃ K, H' = H ++ K := by
  obtain ⟨a, c, rfl, gv⟩ := hv.opn 6 rfl
  have hll : (insL (cvs H xs) n).length = n := insL_len
  have hcd : cdOk (insL (cvs H xs) n) = (inB n 1 60 && ((insL (cvs H xs) n).all insOk && (dOk (insL (cvs H xs) n) && dAt (insL (cvs H xs) n) n == 1))) := by
    unfold cdOk; rw [hll]
  rw [hcd]
  refine w30 ?_
  unfold k30
  simp -implicitDefEqProofs only [kz, kk0, kk1, kk2, kk3, ↓two_true, ↓two_false, oS_some, oM_some, mkv, aggAt, Nat.reduceLeDiff, Nat.reduceSub, Nat.reduceMul, implies_true, Nat.reduceEqDiff, reduceIte, Nat.reduceAdd, Nat.reduceBEq, reduceCtorEq, ix29, ix64, ld3, ld66, ln29, l1In_eq]
  refine two_intro (fun h1 => ?_) (fun h1 => ?_)
  · rw [show inB n 1 60 = false by simpa using h1]
    exact ⟨rfl, [], by simp⟩
  · rw [show inB n 1 60 = true by simpa using h1]
    refine rW_loop (σ := Nat) (fun i tm H' => tm 0 = .slice a n c ∧ tm 3 = .int .i64 i ∧ i ≤ n ∧ (∃ K, H' = H ++ K) ∧ ∀ x ∈ (insL (cvs H xs) n).take i, insOk x = true) (fun i => n - i) 0 ?_ ?_
    · simp -implicitDefEqProofs [kk0, kk1, kk2, kk3, rW_block, ↓two_true, ↓two_false, rW_cond, rO_guard, oS_some, oM_some, mkv, aggAt, Nat.reduceLeDiff, Nat.reduceSub, Nat.reduceMul, cond_true, cond_false, Option.bind_some, List.length_append, List.length_cons, List.length_nil, List.append_assoc, List.cons_append, List.nil_append, List.set_cons_zero, List.set_cons_succ, List.size_toArray, List.all_cons, List.all_nil, List.drop_zero, List.drop_succ_cons, List.take_succ_cons, List.take_zero, List.mem_cons, Prod.mk.injEq, List.not_mem_nil, implies_true, List.getElem?_toArray, List.getElem?_cons_zero, List.getElem?_cons_succ, List.getElem?_nil, Option.getD_some, Option.getD_none, Nat.reduceEqDiff, reduceIte, Nat.reduceAdd, List.map_toArray, List.map_cons, List.map_nil, Bool.false_eq_true, Nat.reduceBEq, Option.map_some, Option.map_none, reduceCtorEq, ix29, ix64, ld3, ld66, ln29]
    · rintro i tm H1 ⟨h0, h3, hi, he, hn⟩
      simp -implicitDefEqProofs only [kz, kk0, kk1, kk2, kk3, ↓two_true, ↓two_false, oS_some, oM_some, mkv, aggAt, Nat.reduceLeDiff, Nat.reduceSub, Nat.reduceMul, implies_true, Nat.reduceEqDiff, reduceIte, Nat.reduceAdd, Nat.reduceBEq, reduceCtorEq, ix29, ix64, ld3, ld66, ln29, h0, h3]
      refine two_intro (fun hc => ?_) (fun hc => ?_)
      · have hlt : i < n := by simpa using hc
        obtain ⟨b, o, cs, rfl, rfl, hrd, hle, hcell⟩ := gv (by omega)
        have x1 := hv.elemn 6 rfl hlt
        obtain ⟨x2, x3⟩ := x1.ext he
        have hin := insL_get (H := H) (xs := xs) hlt
        have hli : i < (insL (cvs H xs) n).length := by omega
        have hin' : (insL (cvs H xs) n)[i] = insOf ((elm 6 xs i).map (cv H)) := by rw [List.getElem?_eq_getElem hli] at hin; exact Option.some.inj hin
        have g1 := rd_ext hrd he
        have l1 : ld Try.prog 66 (o + i * 6) cs = some (.agg (elm 6 xs i).toArray) := by rw [ld66]; exact (hcell i hlt).1
        have ei := fun Φ => (l11Instr_el x2).eqV (Φ := Φ)
        rw [x3] at ei
        simp -implicitDefEqProofs only [kz, kk0, kk1, kk2, kk3, ↓two_true, ↓two_false, oS_some, oM_some, mkv, aggAt, Nat.reduceLeDiff, Nat.reduceSub, Nat.reduceMul, implies_true, Nat.reduceEqDiff, reduceIte, Nat.reduceAdd, Nat.reduceBEq, reduceCtorEq, ix29, ix64, ld3, ld66, ln29, h0, h3, Int.toNat_natCast, g1, l1, ei, IntWalk.i64_in (↑i + 1) (by omega)]
        refine ⟨⟨by omega, by omega⟩, two_intro (fun h => ?_) (fun h => ?_)⟩
        · have hb : insOk (insOf ((elm 6 xs i).map (cv H))) = false := by simpa using h
          have : (insL (cvs H xs) n).all insOk = false := by
            rw [Bool.eq_false_iff]
            intro ha
            rw [(List.all_eq_true.1 ha) _ (List.mem_of_getElem? hin)] at hb
            cases hb
          rw [this]
          exact ⟨rfl, app_ext he⟩
        · refine ⟨i + 1, by omega, by simp, hlt, app_ext he, fun x hx => ?_⟩
          rw [List.take_succ_eq_append_getElem hli, hin'] at hx
          rcases List.mem_append.1 hx with hx | hx
          · exact hn x hx
          · rw [List.mem_singleton.1 hx]; simpa using h
      · have hil : i = n := by have : ¬ i < n := by simpa using hc
                               omega
        subst hil
        rw [List.take_of_length_le (by omega)] at hn
        have hall : (insL (cvs H xs) i).all insOk = true := List.all_eq_true.2 hn
        have hv1 : FRow H1 (.slice a i c) kInstr i xs ∧ cvs H1 xs = cvs H xs := by obtain ⟨K, rfl⟩ := he; exact ⟨hv.mono, hv.vals⟩
        have hd := l11Depths_ok hv1.1 hl (by rw [hv1.2]; exact hall)
        rw [hv1.2] at hd
        rw [hall]
        refine hd.mono ?_
        rintro _ H2 ⟨⟨w, rfl, hw⟩, hK⟩
        have he2 := ext_trans he hK
        simp -implicitDefEqProofs only [kz, kk0, kk1, kk2, kk3, ↓two_true, ↓two_false, oS_some, oM_some, mkv, aggAt, Nat.reduceLeDiff, Nat.reduceSub, Nat.reduceMul, implies_true, Nat.reduceEqDiff, reduceIte, Nat.reduceAdd, Nat.reduceBEq, reduceCtorEq, ix29, ix64, ld3, ld66, ln29, h0]
        refine two_intro (fun h4 => ?_) (fun h4 => ?_)
        · rw [h4]
          obtain ⟨ow, _⟩ := hw h4
          obtain ⟨b2, o2, cs2, rfl, hb2, hle2, hcs2⟩ := ow.blk (by simp [dL])
          have hdl : (dL (insL (cvs H xs) i)).length = i + 1 := by simp [dL, hll]
          have hg := hcs2 i _ (dL_get (by omega))
          rw [hdl]
          simp -implicitDefEqProofs only [kz, kk0, kk1, kk2, kk3, ↓two_true, ↓two_false, oS_some, oM_some, mkv, aggAt, Nat.reduceLeDiff, Nat.reduceSub, Nat.reduceMul, implies_true, Nat.reduceEqDiff, reduceIte, Nat.reduceAdd, Nat.reduceBEq, reduceCtorEq, ix29, ix64, ld3, ld66, ln29, h0, Int.toNat_natCast, Nat.mul_one, rd_own hb2, hg]
          exact ⟨⟨by omega, by omega⟩, by simp, he2⟩
        · rw [h4]
          exact ⟨rfl, he2⟩
def bts (l : List Int) : List Value := l.map (.int .u8)
theorem bts_len {l : List Int} : (bts l).length = l.length := by simp [bts]
theorem bts_get {l : List Int} {i : Nat} (h : i < l.length) : (bts l)[i]? = some (.int .u8 l[i]) := by simp [bts, h]
theorem bts_app {l m : List Int} : bts l ++ bts m = bts (l ++ m) := by simp [bts]
/-- A slice of bytes that may be read. -/
def ByRow (H : AH) (v : Value) (l : List Int) : Prop :=
  (v = .slice none 0 0 ∧ l = []) ∨ ∃ b o cs, v = .slice (some ⟨b, o, none⟩) l.length 1 ∧ rd H b = some cs ∧ o + l.length ≤ cs.length ∧ (cs.drop o).take l.length = bts l
theorem ByRow.same {H H' : AH} {v : Value} {l : List Int} (h : ByRow H v l) (hs : ∀ b, blkOf v = some b → rd H' b = rd H b) : ByRow H' v l := by
  rcases h with h | ⟨b, o, cs, h1, h2, h3, h4⟩
  · exact .inl h
  · exact .inr ⟨b, o, cs, h1, by rw [hs b (by rw [h1]; rfl)]; exact h2, h3, h4⟩
theorem ByRow.ext {H H' : AH} {v : Value} {l : List Int} (h : ByRow H v l) (he : ∃ K, H' = H ++ K) : ByRow H' v l := by
  obtain ⟨K, rfl⟩ := he
  rcases h with h | ⟨b, o, cs, h1, h2, h3, h4⟩
  · exact .inl h
  · exact .inr ⟨b, o, cs, h1, by rw [rdl (by simp [h2]), h2], h3, h4⟩
theorem ByRow.op {H : AH} {v : Value} {l : List Int} (h : ByRow H v l) : ∃ a c, v = .slice a l.length c ∧ (0 < l.length → ∃ b o cs, a = some ⟨b, o, none⟩ ∧ c = 1 ∧ rd H b = some cs ∧ o + l.length ≤ cs.length ∧ ∀ i (hi : i < l.length), cs[o + i]? = some (.int .u8 l[i])) := by
  rcases h with ⟨rfl, rfl⟩ | ⟨b, o, cs, rfl, h1, h2, h3⟩
  · exact ⟨none, 0, rfl, fun h => by simp at h⟩
  · refine ⟨_, _, rfl, fun _ => ⟨b, o, cs, rfl, rfl, h1, h2, fun i hi => ?_⟩⟩
    have := bts_get hi
    rw [← h3, List.getElem?_take_of_lt hi, List.getElem?_drop] at this
    exact this
/-- A slice of bytes that is a whole block of its own, or nil. -/
def ByNew (H0 H : AH) (v : Value) (l : List Int) : Prop :=
  (v = .slice none 0 0 ∧ l = []) ∨ ∃ b, v = .slice (some ⟨b, 0, none⟩) l.length 1 ∧ H0.length ≤ b ∧ H[b]? = some ⟨bts l, .own⟩
theorem ByNew.row {H0 H : AH} {v : Value} {l : List Int} (h : ByNew H0 H v l) : ByRow H v l := by
  rcases h with h | ⟨b, h1, h2, h3⟩
  · exact .inl h
  · exact .inr ⟨b, 0, bts l, h1, rd_own h3, by rw [bts_len]; omega, by rw [List.drop_zero, List.take_of_length_le (by rw [bts_len]; exact Nat.le_refl _)]⟩
theorem ByNew.ext {H0 H H' : AH} {v : Value} {l : List Int} (h : ByNew H0 H v l) (he : ∃ K, H' = H ++ K) : ByNew H0 H' v l := by
  obtain ⟨K, rfl⟩ := he
  rcases h with h | ⟨b, h1, h2, h3⟩
  · exact .inl h
  · exact .inr ⟨b, h1, h2, gtl h3⟩
theorem ByNew.same {H0 H H' : AH} {v : Value} {l : List Int} (h : ByNew H0 H v l) (hs : ∀ b, blkOf v = some b → H'[b]? = H[b]?) : ByNew H0 H' v l := by
  rcases h with h | ⟨b, h1, h2, h3⟩
  · exact .inl h
  · exact .inr ⟨b, h1, h2, by rw [hs b (by rw [h1]; rfl)]; exact h3⟩
theorem ByNew.lt {H0 H : AH} {v : Value} {l : List Int} (h : ByNew H0 H v l) {b : Nat} (hb : blkOf v = some b) : H0.length ≤ b ∧ b < H.length := by
  rcases h with ⟨rfl, _⟩ | ⟨b', rfl, h2, h3⟩
  · simp [blkOf] at hb
  · simp [blkOf] at hb; subst hb; exact ⟨h2, (List.getElem?_eq_some_iff.1 h3).1⟩
def mksB (k : Int) (n : Nat) : List Int := (List.range n).map fun (i : Nat) => IntKind.u8.wrap (k + (i : Int))
theorem mksB_len {k : Int} {n : Nat} : (mksB k n).length = n := by simp [mksB]
set_option maxHeartbeats 4000000 in
theorem eqByteS_ok {H : AH} {v w : Value} {l m : List Int} (hv : ByRow H v l) (hw : ByRow H w m) (hl : l.length < 9223372036854775807) : CallsA Try.prog 16 #[v, w] H fun r H' => r = .bool (l == m) ∧ H' = H := by
  obtain ⟨a, c, rfl, gv⟩ := hv.op
  obtain ⟨a', c', rfl, gw⟩ := hw.op
  refine w16 ?_
  unfold k16
  simp -implicitDefEqProofs only [kz, kk0, kk1, kk2, kk3, ↓two_true, ↓two_false, oS_some, oM_some, mkv, aggAt, Nat.reduceLeDiff, Nat.reduceSub, Nat.reduceMul, implies_true, Nat.reduceEqDiff, reduceIte, Nat.reduceAdd, Nat.reduceBEq, reduceCtorEq, ix22, ld5, ln22]
  refine two_intro (fun h => ?_) (fun h => ?_)
  · have : (l == m) = false := by
      rw [beq_eq_false_iff_ne]
      rintro rfl
      simp at h
    rw [this]
  · have hlen : l.length = m.length := by simp at h; omega
    refine rW_loop (σ := Nat) (fun i tm H' => tm 0 = .slice a l.length c ∧ tm 1 = .slice a' m.length c' ∧ tm 5 = .int .i64 i ∧ H' = H ∧ i ≤ l.length ∧ ∀ j, j < i → l[j]? = m[j]?) (fun i => l.length - i) 0 ?_ ?_
    · simp -implicitDefEqProofs [kk0, kk1, kk2, kk3, rW_block, ↓two_true, ↓two_false, rW_cond, rO_guard, oS_some, oM_some, mkv, aggAt, Nat.reduceLeDiff, Nat.reduceSub, Nat.reduceMul, cond_true, cond_false, Option.bind_some, List.length_append, List.length_cons, List.length_nil, List.append_assoc, List.cons_append, List.nil_append, List.set_cons_zero, List.set_cons_succ, List.size_toArray, List.all_cons, List.all_nil, List.drop_zero, List.drop_succ_cons, List.take_succ_cons, List.take_zero, List.mem_cons, Prod.mk.injEq, List.not_mem_nil, implies_true, List.getElem?_toArray, List.getElem?_cons_zero, List.getElem?_cons_succ, List.getElem?_nil, Option.getD_some, Option.getD_none, Nat.reduceEqDiff, reduceIte, Nat.reduceAdd, List.map_toArray, List.map_cons, List.map_nil, Bool.false_eq_true, Nat.reduceBEq, Option.map_some, Option.map_none, reduceCtorEq, ix22, ld5, ln22]
    · rintro i tm H' ⟨h0, h1, h5, rfl, hi, hn⟩
      simp -implicitDefEqProofs only [kz, kk0, kk1, kk2, kk3, ↓two_true, ↓two_false, oS_some, oM_some, mkv, aggAt, Nat.reduceLeDiff, Nat.reduceSub, Nat.reduceMul, implies_true, Nat.reduceEqDiff, reduceIte, Nat.reduceAdd, Nat.reduceBEq, reduceCtorEq, ix22, ld5, ln22, h0, h1, h5]
      refine two_intro (fun hc => ?_) (fun hc => ?_)
      · have hc' : i < l.length := by simpa using hc
        have hc2 : i < m.length := by omega
        obtain ⟨b, o, cs, rfl, rfl, hrd, _, hcell⟩ := gv (by omega)
        obtain ⟨b', o', cs', rfl, rfl, hrd', _, hcell'⟩ := gw (by omega)
        simp -implicitDefEqProofs only [kz, kk0, kk1, kk2, kk3, ↓two_true, ↓two_false, oS_some, oM_some, mkv, aggAt, Nat.reduceLeDiff, Nat.reduceSub, Nat.reduceMul, implies_true, Nat.reduceEqDiff, reduceIte, Nat.reduceAdd, Nat.reduceBEq, reduceCtorEq, ix22, ld5, ln22, h0, h1, h5, Int.toNat_natCast, Nat.mul_one, hrd, hrd', hcell i hc', hcell' i hc2, IntWalk.i64_in (↑i + 1) (by omega)]
        refine ⟨⟨by omega, by omega⟩, ⟨by omega, by omega⟩, two_intro (fun h => ?_) (fun h => ?_)⟩
        · have : (l == m) = false := by
            rw [beq_eq_false_iff_ne]
            rintro rfl
            simp at h
          rw [this]
        · refine ⟨i + 1, by omega, by simp, hc', fun j hj => ?_⟩
          rcases Nat.lt_or_ge j i with h1 | h1
          · exact hn j h1
          · have : j = i := by omega
            subst this
            simpa [hc', hc2] using h
      · have hc' : ¬ i < l.length := by simpa using hc
        have : (l == m) = true := by
          rw [beq_iff_eq]
          refine List.ext_getElem? fun j => ?_
          rcases Nat.lt_or_ge j i with h1 | h1
          · exact hn j h1
          · rw [List.getElem?_eq_none (by omega), List.getElem?_eq_none (by omega)]
        rw [this]

set_option maxHeartbeats 4000000 in
theorem markByteS_ok {H0 H : AH} {v : Value} {l : List Int} {k : Int} (hv : ByNew H0 H v l) (hl : l.length < 4611686018427387904) (hk : 0 ≤ k ∧ k < 4611686018427387904) : CallsA Try.prog 17 #[v, .int .i64 k] H fun r H' => r = .int .i64 (k + l.length) ∧ ByNew H0 H' v (mksB k l.length) ∧ H'.length = H.length ∧ ∀ b, blkOf v ≠ some b → H'[b]? = H[b]? := by
  obtain ⟨a, c, rfl, gv⟩ := hv.row.op
  refine w17 ?_
  unfold k17
  simp -implicitDefEqProofs only [kz, kk0, kk1, kk2, kk3, ↓two_true, ↓two_false, oS_some, oM_some, mkv, aggAt, Nat.reduceLeDiff, Nat.reduceSub, Nat.reduceMul, implies_true, Nat.reduceEqDiff, reduceIte, Nat.reduceAdd, Nat.reduceBEq, reduceCtorEq, cv3_5, ix22, ln22, st5]
  refine rW_loop (σ := Nat) (fun i tm H' => tm 0 = .slice a l.length c ∧ tm 1 = .int .i64 (k + i) ∧ tm 5 = .int .i64 i ∧ ByNew H0 H' (.slice a l.length c) (mksB k i ++ l.drop i) ∧ H'.length = H.length ∧ (∀ b, blkOf (.slice a l.length c) ≠ some b → H'[b]? = H[b]?) ∧ i ≤ l.length) (fun i => l.length - i) 0 ?_ ?_
  · simp -implicitDefEqProofs [kk0, kk1, kk2, kk3, rW_block, ↓two_true, ↓two_false, rW_cond, rO_guard, oS_some, oM_some, mkv, aggAt, Nat.reduceLeDiff, Nat.reduceSub, Nat.reduceMul, cond_true, cond_false, Option.bind_some, List.length_append, List.length_cons, List.length_nil, List.append_assoc, List.cons_append, List.nil_append, List.set_cons_zero, List.set_cons_succ, List.size_toArray, List.all_cons, List.all_nil, List.drop_zero, List.drop_succ_cons, List.take_succ_cons, List.take_zero, List.mem_cons, Prod.mk.injEq, List.not_mem_nil, implies_true, List.getElem?_toArray, List.getElem?_cons_zero, List.getElem?_cons_succ, List.getElem?_nil, Option.getD_some, Option.getD_none, Nat.reduceEqDiff, reduceIte, Nat.reduceAdd, List.map_toArray, List.map_cons, List.map_nil, Bool.false_eq_true, Nat.reduceBEq, Option.map_some, Option.map_none, reduceCtorEq, cv3_5, ix22, ln22, st5]
    exact hv
  · rintro i tm H' ⟨h0, h1, h5, ho, hlen, hfr, hi⟩
    simp -implicitDefEqProofs only [kz, kk0, kk1, kk2, kk3, ↓two_true, ↓two_false, oS_some, oM_some, mkv, aggAt, Nat.reduceLeDiff, Nat.reduceSub, Nat.reduceMul, implies_true, Nat.reduceEqDiff, reduceIte, Nat.reduceAdd, Nat.reduceBEq, reduceCtorEq, cv3_5, ix22, ln22, st5, h0, h1, h5]
    refine two_intro (fun hc => ?_) (fun hc => ?_)
    · have hc' : i < l.length := by simpa using hc
      have hll : (mksB k i ++ l.drop i).length = l.length := by simp [mksB_len]; omega
      rcases ho with ⟨-, e⟩ | ⟨b, e, hb0, hb⟩
      · rw [e] at hll; simp at hll; omega
      · rw [hll] at e
        simp only [Value.slice.injEq] at e
        obtain ⟨rfl, -, rfl⟩ := e
        have hbl : b < H'.length := (List.getElem?_eq_some_iff.1 hb).1
        have hw := wrt_own hb
        have hbt : (bts (mksB k i ++ l.drop i)).length = l.length := by rw [bts_len, hll]
        simp -implicitDefEqProofs only [kz, kk0, kk1, kk2, kk3, ↓two_true, ↓two_false, oS_some, oM_some, mkv, aggAt, Nat.reduceLeDiff, Nat.reduceSub, Nat.reduceMul, implies_true, Nat.reduceEqDiff, reduceIte, Nat.reduceAdd, Nat.reduceBEq, reduceCtorEq, cv3_5, ix22, ln22, st5, h0, h1, h5, Int.toNat_natCast, Nat.mul_one, hw, IntWalk.i64_in (↑i + 1) (by omega), IntWalk.i64_in (k + ↑i + 1) (by omega)]
        refine ⟨⟨by omega, by omega⟩, by rw [hbt]; omega, i + 1, by omega, ?_, by simp, .inr ⟨b, ?_, hb0, ?_⟩, by rw [List.length_set]; exact hlen, fun b' hb' => ?_, hc'⟩
        · simp only [Int.natCast_add, Int.add_assoc]; rfl
        · congr 1; simp [mksB_len]; omega
        · rw [List.getElem?_set_self hbl]
          congr 2
          have e1 : mksB k (i + 1) = mksB k i ++ [IntKind.u8.wrap (k + i)] := by simp [mksB, List.range_succ]
          have e2 : l.drop i = l[i] :: l.drop (i + 1) := List.drop_eq_getElem_cons hc'
          rw [e1, e2, ← bts_app, ← bts_app, List.set_append_right _ _ (by rw [bts_len, mksB_len]; omega), bts_len, mksB_len, Nat.sub_self, ← bts_app, List.append_assoc]
          rfl
        · rw [List.getElem?_set_ne (by rintro rfl; exact hb' rfl), hfr b' hb']
    · have hc' : ¬ i < l.length := by simpa using hc
      have hil : i = l.length := by omega
      subst hil
      rw [List.drop_length, List.append_nil] at ho
      exact ⟨rfl, ho, hlen, hfr⟩

set_option maxHeartbeats 4000000 in
theorem toByteS_ok {H : AH} {v : Value} {l : List Int} (hv : ByRow H v l) (hl : l.length ≤ 1048576) : CallsA Try.prog 13 #[v] H fun r H' => ByNew H H' r l ∧ (∃ b, r = .slice (some ⟨b, 0, none⟩) l.length 1) ∧ ∃ K, H' = H ++ K := by
  obtain ⟨a, c, rfl, gv⟩ := hv.op
  have q := (LX.nil (H := H))
  refine w13 ?_
  unfold k13
  simp -implicitDefEqProofs only [kz, kk0, kk1, kk2, kk3, ↓two_true, ↓two_false, mkv, aggAt, Nat.reduceLeDiff, Nat.reduceSub, Nat.reduceMul, implies_true, Nat.reduceEqDiff, reduceIte, Nat.reduceAdd, Nat.reduceBEq, reduceCtorEq, ix22, ld5, ln22, ms22, st5]
  refine ⟨by omega, ?_⟩
  rw [Int.toNat_natCast]
  have hfl : ∀ n : Nat, (List.replicate n [Value.int .u8 0]).flatten = bts (List.replicate n 0) := fun n => by
    induction n with
    | zero => rfl
    | succ n ih => rw [List.replicate_succ, List.flatten_cons, ih]; rfl
  rw [hfl]
  refine st_cells q fun H1 q1 => ?_
  simp -implicitDefEqProofs only [kz, kk0, kk1, kk2, kk3, ↓two_true, ↓two_false, mkv, aggAt, Nat.reduceLeDiff, Nat.reduceSub, Nat.reduceMul, implies_true, Nat.reduceEqDiff, reduceIte, Nat.reduceAdd, Nat.reduceBEq, reduceCtorEq, ix22, ld5, ln22, ms22, st5]
  refine rW_loopQ (σ := Nat) q1 [0, 3] (fun x tm => tm 4 = .int .i64 x ∧ x ≤ l.length) (fun x L => [.own (.box H.length (bts (l.take x ++ List.replicate (l.length - x) 0)))]) (fun x => l.length - x) 0 ⟨rfl, Nat.zero_le _⟩ (by simp) ?_
  rintro i tm1 H2 ⟨lv1, lv2, -⟩ ⟨ki, hi⟩ q2
  simp -implicitDefEqProofs only [kz, kk0, kk1, kk2, kk3, ↓two_true, ↓two_false, mkv, aggAt, Nat.reduceLeDiff, Nat.reduceSub, Nat.reduceMul, implies_true, Nat.reduceEqDiff, reduceIte, Nat.reduceAdd, Nat.reduceBEq, reduceCtorEq, ix22, ld5, ln22, ms22, st5] at lv1 lv2
  simp -implicitDefEqProofs only [kz, kk0, kk1, kk2, kk3, ↓two_true, ↓two_false, mkv, aggAt, Nat.reduceLeDiff, Nat.reduceSub, Nat.reduceMul, implies_true, Nat.reduceEqDiff, reduceIte, Nat.reduceAdd, Nat.reduceBEq, reduceCtorEq, ix22, ld5, ln22, ms22, st5, lv1, lv2, ki]
  refine two_intro (fun u1 => ?_) (fun u1 => ?_)
  · have hc' : i < l.length := by have h5 := of_decide_eq_true u1; omega
    have wi : IntKind.i64.wrap ((i : Int) + 1) = ((i + 1 : Nat) : Int) := IntWalk.i64_in ((i : Int) + 1) (by omega)
    obtain ⟨b, o, cs, rfl, rfl, hrd, _, hcell⟩ := gv (by omega)
    have hrd2 : rd H2 b = some cs := rd_ext hrd q2.ext
    have hbt : (bts (l.take i ++ List.replicate (l.length - i) 0)).length = l.length := by rw [bts_len]; simp; omega
    have g1 : (0 : Int) ≤ (i : Int) ∧ (i : Int) < (l.length : Int) := by omega
    have l1 : i + 1 ≤ (bts (l.take i ++ List.replicate (l.length - i) 0)).length := by rw [hbt]; exact hc'
    simp -implicitDefEqProofs only [kz, kk0, kk1, kk2, kk3, ↓two_true, ↓two_false, mkv, aggAt, Nat.reduceLeDiff, Nat.reduceSub, Nat.reduceMul, implies_true, Nat.reduceEqDiff, reduceIte, Nat.reduceAdd, Nat.reduceBEq, reduceCtorEq, ix22, ld5, ln22, ms22, st5, lv1, lv2, ki, wi, if_pos g1, Int.toNat_natCast, Nat.mul_one, hrd2, hcell i hc', q2.rd 0 rfl, l1]
    refine st_set q2 0 rfl fun H3 q3 => ?_
    simp only [List.set_cons_zero] at q3
    simp -implicitDefEqProofs only [kz, kk0, kk1, kk2, kk3, ↓two_true, ↓two_false, mkv, aggAt, Nat.reduceLeDiff, Nat.reduceSub, Nat.reduceMul, implies_true, Nat.reduceEqDiff, reduceIte, Nat.reduceAdd, Nat.reduceBEq, reduceCtorEq, ix22, ld5, ln22, ms22, st5, lv1, lv2, ki, wi]
    refine ⟨i + 1, (by omega), ⟨rfl, rfl, trivial⟩, ⟨rfl, hc'⟩, ?_⟩
    have e : (bts (l.take i ++ List.replicate (l.length - i) 0)).set i (.int .u8 l[i]) = bts (l.take (i + 1) ++ List.replicate (l.length - (i + 1)) 0) := by
      rw [List.take_succ_eq_append_getElem hc', show l.length - i = (l.length - (i + 1)) + 1 by omega, List.replicate_succ, ← bts_app, List.set_append_right _ _ (by rw [bts_len]; simp; omega), bts_len]
      rw [show i - (l.take i).length = 0 by simp; omega, ← bts_app, ← bts_app, List.append_assoc]
      rfl
    rw [e] at q3
    exact q3
  · have hil : i = l.length := by have h5 := of_decide_eq_false u1; omega
    subst hil
    try simp -implicitDefEqProofs only [kz, kk0, kk1, kk2, kk3, ↓two_true, ↓two_false, mkv, aggAt, Nat.reduceLeDiff, Nat.reduceSub, Nat.reduceMul, implies_true, Nat.reduceEqDiff, reduceIte, Nat.reduceAdd, Nat.reduceBEq, reduceCtorEq, ix22, ld5, ln22, ms22, st5, lv1, lv2, ki]
    rw [List.take_length, Nat.sub_self, List.replicate_zero, List.append_nil] at q2
    obtain ⟨B, h⟩ := q2
    exact ⟨.inr ⟨H.length, rfl, Nat.le_refl _, h.ok 0 _ rfl⟩, ⟨_, rfl⟩, LX.ext ⟨B, h⟩⟩

theorem LX.bx {c : Option Nat} {H0 H : AH} {L : List Ix} {o : Nat} {cs : List Value} (h : LX c H0 H L) (i : Nat) (hi : L[i]? = some (.own (.box o cs))) : H[o]? = some ⟨cs, .own⟩ := by
  obtain ⟨B, h⟩ := h
  exact h.ok i _ hi
theorem LX.bxlt {c : Option Nat} {H0 H : AH} {L : List Ix} {o : Nat} {cs : List Value} (h : LX c H0 H L) (i : Nat) (hi : L[i]? = some (.own (.box o cs))) : H0.length ≤ o := by
  obtain ⟨B, h⟩ := h
  exact (h.fr i _ hi o rfl).2
theorem oA_box {H : AH} {b b' n m : Nat} {cs ds : List Value} {Φ : Value → AH → Prop} (hb : H[b]? = some ⟨cs, .own⟩) (hd : rd H b' = some ds) (hn : n = cs.length) (hm : m = ds.length) (hlf : ds.all leaf = true) (h0 : 0 < m) (hl : n + m ≤ 1073741824)
    (k : ∀ H', App H (.slice (some ⟨b, 0, none⟩) n 1) H' (.slice (some ⟨H.length, 0, none⟩) (n + m) 1) → H'.length = H.length + 1 → H'[H.length]? = some ⟨cs ++ ds, .own⟩ → Φ (.slice (some ⟨H.length, 0, none⟩) (n + m) 1) H') :
    oA (app 1 (.slice (some ⟨b, 0, none⟩) n 1) (.slice (some ⟨b', 0, none⟩) m 1) H) Φ := by
  subst hn; subst hm
  have c1 : cl H 1 (.slice (some ⟨b, 0, none⟩) cs.length 1) = some cs := by
    simp only [cl, rd_own hb, Option.bind_some, Nat.mul_one, Nat.zero_add, Nat.le_refl, if_true, List.drop_zero, List.take_length]
  have c2 : cl H 1 (.slice (some ⟨b', 0, none⟩) ds.length 1) = some ds := by
    simp only [cl, hd, Option.bind_some, Nat.mul_one, Nat.zero_add, Nat.le_refl, if_true, List.drop_zero, List.take_length]
  unfold app
  rw [c1, c2]
  have hok : ownOk (.slice (some ⟨b, 0, none⟩) cs.length 1) 1 H = true := by simp [ownOk, hb]
  have e1 : ∀ b n : Nat, lenS (.slice (some ⟨b, 0, none⟩) n 1) = n := fun _ _ => rfl
  simp only [e1]
  rw [if_neg (show ¬ ds.length = 0 by omega), if_pos ⟨hl, hlf, hok⟩]
  refine k _ ⟨by simp [kill_len2], fun b2 hb2 hn => ?_, fun b2 hb2 => .inr ?_⟩ (by simp [kill_len2]) ?_
  · rw [List.getElem?_append_left (by rw [kill_len2]; exact hb2), kill_keep hn]
  · simp [blkOf] at hb2; omega
  · rw [← kill_len2 (v := .slice (some ⟨b, 0, none⟩) cs.length 1), gt0]; rfl
theorem LX.pushB {c : Option Nat} {H0 H H' : AH} {L : List Ix} {b b2 n m : Nat} {cs cs' : List Value} (h : LX c H0 H L) (i : Nat) (hi : L[i]? = some (.own (.box b cs))) (ha : App H (.slice (some ⟨b, 0, none⟩) n 1) H' (.slice (some ⟨b2, 0, none⟩) m 1)) (hb : H'[b2]? = some ⟨cs', .own⟩) : LX c H0 H' (L.set i (.own (.box b2 cs'))) := by
  obtain ⟨B, h⟩ := h
  refine ⟨B, h.upd i hi ha.len (fun g hg hn => ha.keep g hg (fun e => hn ?_)) hb fun g hg => ?_⟩
  · simp [blkOf] at e; exact e.symm
  · have hg : g = b2 := hg
    subst hg
    rcases ha.new g rfl with e | e
    · left; simp [blkOf] at e; exact e.symm
    · exact .inr e
theorem st_appB {c : Option Nat} {H0 H : AH} {L : List Ix} {Φ : Value → AH → Prop} {b b' n m : Nat} {cs ds : List Value} (q : LX c H0 H L) (i j : Nat) (hi : L[i]? = some (.own (.box b cs))) (hj : L[j]? = some (.own (.box b' ds))) (hn : n = cs.length) (hm : m = ds.length) (hlf : ds.all leaf = true) (h0 : 0 < m) (hl : n + m ≤ 1073741824)
    (k : ∀ H', LX c H0 H' (L.set i (.own (.box H.length (cs ++ ds)))) → Φ (.slice (some ⟨H.length, 0, none⟩) (n + m) 1) H') : oA (app 1 (.slice (some ⟨b, 0, none⟩) n 1) (.slice (some ⟨b', 0, none⟩) m 1) H) Φ :=
  oA_box (q.bx i hi) (rd_own (q.bx j hj)) hn hm hlf h0 hl fun H' ha _ hb => k H' (q.pushB i hi ha hb)
theorem App.trans {H H1 H2 : AH} {v v1 v2 : Value} (h1 : App H v H1 v1) (h2 : App H1 v1 H2 v2) : App H v H2 v2 := by
  refine ⟨Nat.le_trans h1.len h2.len, fun b hb hn => ?_, fun b hb => ?_⟩
  · rw [h2.keep b (Nat.lt_of_lt_of_le hb h1.len) (fun e => ?_), h1.keep b hb hn]
    rcases h1.new b e with h | h
    · exact hn h
    · omega
  · rcases h2.new b hb with h | h
    · exact h1.new b h
    · exact .inr (Nat.le_trans h1.len h)
/-- Eight bytes of a number, the lowest first. -/
def le8 (y : Int) : List Int := (List.range 8).map fun j : Nat => IntKind.u8.wrap (y.fdiv (2 ^ (8 * j)))
theorem le8_len {y : Int} : (le8 y).length = 8 := by simp [le8]
theorem le8_take {y : Int} {i : Nat} (h : i < 8) : (le8 y).take (i + 1) = (le8 y).take i ++ [IntKind.u8.wrap (y.fdiv (2 ^ (8 * i)))] := by
  rw [List.take_succ_eq_append_getElem (by rw [le8_len]; exact h)]
  simp [le8]
theorem shr8 {i : Nat} (h : i < 8) : (2 : Int) ^ (min (((8 : Int) * (i : Int)).toNat) IntKind.i64.bits) = 2 ^ (8 * i) := by
  have : ((8 : Int) * (i : Int)).toNat = 8 * i := by omega
  rw [this, Nat.min_eq_left (by show 8 * i ≤ 64; omega)]

/-- An instruction's bytes. -/
def pkI (x : Ins) : List Int := ([x.op, x.a, x.s, x.o, x.w].map IntKind.u8.wrap) ++ if x.op = 1 then [IntKind.u8.wrap (x.nums.length : Int), IntKind.u8.wrap ((x.nums.length : Int) / 256)] ++ x.nums.flatMap (fun n => le8 (n + 1000000000000)) else []
def pkG (l : List Ins) : List Int := IntKind.u8.wrap (l.length : Int) :: l.flatMap pkI
def pkA (l : List Ins) : List Int := if cdOk l = true then pkG l else []
def pkT (l : List Ins) (i : Nat) : List Int := IntKind.u8.wrap (l.length : Int) :: (l.take i).flatMap pkI
theorem pkT_succ {l : List Ins} {i : Nat} {x : Ins} (h : l[i]? = some x) : pkT l (i + 1) = pkT l i ++ pkI x := by
  obtain ⟨h1, h2⟩ := List.getElem?_eq_some_iff.1 h
  unfold pkT
  rw [List.take_succ_eq_append_getElem h1, List.flatMap_append, h2]; simp
theorem le8s_len {l : List Int} : (l.flatMap fun n => le8 (n + 1000000000000)).length = l.length * 8 := by
  induction l with
  | nil => rfl
  | cons x l ih => rw [List.flatMap_cons, List.length_append, ih, le8_len, List.length_cons]; omega
theorem insOk_nums {x : Ins} (h : insOk x = true) (h1 : x.op = 1) : numsOk x.nums = true := by
  unfold insOk at h
  rw [h1] at h
  simp at h
  exact h.2.2
theorem pkI_len {x : Ins} (h : insOk x = true) : (pkI x).length ≤ 2407 := by
  unfold pkI
  rw [List.length_append]
  split
  · rename_i h1
    have := insOk_nums h h1
    simp only [numsOk, inB, Bool.and_eq_true, decide_eq_true_eq] at this
    rw [List.length_append, le8s_len]
    simp; omega
  · simp
theorem pkT_len {l : List Ins} (h : l.all insOk = true) : ∀ {i : Nat}, (pkT l i).length ≤ 1 + 2407 * i
  | 0 => by simp [pkT]
  | i + 1 => by
    have ih := pkT_len h (i := i)
    rcases Nat.lt_or_ge i l.length with hi | hi
    · rw [pkT_succ (List.getElem?_eq_getElem hi), List.length_append]
      have := pkI_len (List.all_eq_true.1 h _ (List.getElem_mem hi))
      omega
    · have : pkT l (i + 1) = pkT l i := by unfold pkT; rw [List.take_of_length_le (by omega), List.take_of_length_le hi]
      rw [this]; omega

set_option maxHeartbeats 4000000 in
theorem specPack_ok {H : AH} {v : Value} {n : Nat} {xs : List Value} (hv : FRow H v kInstr n xs) (hl : n ≤ 1048576) :
    CallsA Try.prog 42 #[v] H fun r H' => (∃ w, r = .tuple #[w, .bool (cdOk (insL (cvs H xs) n))] ∧ ByNew H H' w (pkA (insL (cvs H xs) n))) ∧ ∃ K, H' = H ++ K := by
  have hc := specCodeOk_ok hv hl
  obtain ⟨a, c, rfl, gv⟩ := hv.opn 6 rfl
  generalize hL : insL (cvs H xs) n = l at *
  have hll : l.length = n := by rw [← hL, insL_len]
  have q := (LX.nil (H := H))
  refine w42 ?_
  unfold k42
  simp -implicitDefEqProofs only [kz, kk0, kk1, kk2, kk3, ↓two_true, ↓two_false, mkv, aggAt, Nat.reduceLeDiff, Nat.reduceSub, Nat.reduceMul, implies_true, Nat.reduceEqDiff, reduceIte, Nat.reduceAdd, Nat.reduceBEq, reduceCtorEq, al66, ap22_22, bs22_0, bs22_1, bs22_2, bs22_5, cv3_5, fa63_0, fa63_1, fa63_2, fa66_0, fa66_1, fa66_2, fa66_3, ix29, ix64, ld3, ld64, ld66, ln29, ln64, st66]
  refine hc.mono ?_
  rintro _ H1 ⟨rfl, hK1⟩
  have q1 := q.extd hK1
  simp -implicitDefEqProofs only [kz, kk0, kk1, kk2, kk3, ↓two_true, ↓two_false, mkv, aggAt, Nat.reduceLeDiff, Nat.reduceSub, Nat.reduceMul, implies_true, Nat.reduceEqDiff, reduceIte, Nat.reduceAdd, Nat.reduceBEq, reduceCtorEq, al66, ap22_22, bs22_0, bs22_1, bs22_2, bs22_5, cv3_5, fa63_0, fa63_1, fa63_2, fa66_0, fa66_1, fa66_2, fa66_3, ix29, ix64, ld3, ld64, ld66, ln29, ln64, st66]
  refine two_intro (fun u1 => ?_) (fun u1 => ?_)
  · have hk : cdOk l = false := by simpa using u1
    rw [hk]
    refine st_cells q1 fun H2 q2 => ?_
    try simp -implicitDefEqProofs only [kz, kk0, kk1, kk2, kk3, ↓two_true, ↓two_false, mkv, aggAt, Nat.reduceLeDiff, Nat.reduceSub, Nat.reduceMul, implies_true, Nat.reduceEqDiff, reduceIte, Nat.reduceAdd, Nat.reduceBEq, reduceCtorEq, al66, ap22_22, bs22_0, bs22_1, bs22_2, bs22_5, cv3_5, fa63_0, fa63_1, fa63_2, fa66_0, fa66_1, fa66_2, fa66_3, ix29, ix64, ld3, ld64, ld66, ln29, ln64, st66]
    have hA : pkA l = [] := by unfold pkA; rw [if_neg (by rw [hk]; decide)]
    rw [hA]
    exact ⟨⟨_, rfl, .inr ⟨_, rfl, ext_len hK1, q2.bx 0 rfl⟩⟩, q2.ext⟩
  · have hk : cdOk l = true := by simpa using u1
    have hk' := hk
    unfold cdOk at hk'
    simp only [Bool.and_eq_true] at hk'
    have hb2 : 1 ≤ n ∧ n ≤ 60 := by have := hk'.1; rw [hll] at this; simp [inB] at this; omega
    have hok := hk'.2.1
    clear hk'
    try simp -implicitDefEqProofs only [kz, kk0, kk1, kk2, kk3, ↓two_true, ↓two_false, mkv, aggAt, Nat.reduceLeDiff, Nat.reduceSub, Nat.reduceMul, implies_true, Nat.reduceEqDiff, reduceIte, Nat.reduceAdd, Nat.reduceBEq, reduceCtorEq, al66, ap22_22, bs22_0, bs22_1, bs22_2, bs22_5, cv3_5, fa63_0, fa63_1, fa63_2, fa66_0, fa66_1, fa66_2, fa66_3, ix29, ix64, ld3, ld64, ld66, ln29, ln64, st66]
    refine st_cells q1 fun H2 q2 => ?_
    simp -implicitDefEqProofs only [kz, kk0, kk1, kk2, kk3, ↓two_true, ↓two_false, mkv, aggAt, Nat.reduceLeDiff, Nat.reduceSub, Nat.reduceMul, implies_true, Nat.reduceEqDiff, reduceIte, Nat.reduceAdd, Nat.reduceBEq, reduceCtorEq, al66, ap22_22, bs22_0, bs22_1, bs22_2, bs22_5, cv3_5, fa63_0, fa63_1, fa63_2, fa66_0, fa66_1, fa66_2, fa66_3, ix29, ix64, ld3, ld64, ld66, ln29, ln64, st66]
    have e0 : [Value.int .u8 (IntKind.u8.wrap (n : Int))] = bts (pkT l 0) := by rw [← hll]; rfl
    rw [e0] at q2
    refine rW_loopQ (σ := Nat × Nat) q2 [0] (fun x tm => tm 4 = .slice (some ⟨x.2, 0, none⟩) (pkT l x.1).length 1 ∧ tm 5 = .int .i64 x.1 ∧ x.1 ≤ n) (fun x L => [.own (.box x.2 (bts (pkT l x.1)))]) (fun x => n - x.1) (0, H1.length) ⟨rfl, rfl, Nat.zero_le _⟩ rfl ?_
    rintro ⟨i, bo⟩ tm1 H3 ⟨lv1, -⟩ ⟨k4, ki, hi⟩ q3
    simp -implicitDefEqProofs only [kz, kk0, kk1, kk2, kk3, ↓two_true, ↓two_false, mkv, aggAt, Nat.reduceLeDiff, Nat.reduceSub, Nat.reduceMul, implies_true, Nat.reduceEqDiff, reduceIte, Nat.reduceAdd, Nat.reduceBEq, reduceCtorEq, al66, ap22_22, bs22_0, bs22_1, bs22_2, bs22_5, cv3_5, fa63_0, fa63_1, fa63_2, fa66_0, fa66_1, fa66_2, fa66_3, ix29, ix64, ld3, ld64, ld66, ln29, ln64, st66] at lv1
    simp only at k4 ki hi
    simp -implicitDefEqProofs only [kz, kk0, kk1, kk2, kk3, ↓two_true, ↓two_false, mkv, aggAt, Nat.reduceLeDiff, Nat.reduceSub, Nat.reduceMul, implies_true, Nat.reduceEqDiff, reduceIte, Nat.reduceAdd, Nat.reduceBEq, reduceCtorEq, al66, ap22_22, bs22_0, bs22_1, bs22_2, bs22_5, cv3_5, fa63_0, fa63_1, fa63_2, fa66_0, fa66_1, fa66_2, fa66_3, ix29, ix64, ld3, ld64, ld66, ln29, ln64, st66, lv1, ki, k4]
    refine two_intro (fun u2 => ?_) (fun u2 => ?_)
    · have hlt : i < n := by have h5 := of_decide_eq_true u2; omega
      obtain ⟨b, o, cs, rfl, rfl, hrd, hle, hcell⟩ := gv (by omega)
      have x1 := hv.elemn 6 rfl hlt
      have hin : l[i]? = some (insOf ((elm 6 xs i).map (cv H))) := by rw [← hL]; exact insL_get hlt
      have hpk := pkT_succ hin
      have hio : insOk (insOf ((elm 6 xs i).map (cv H))) = true := (List.all_eq_true.1 hok) _ (List.mem_of_getElem? hin)
      have g1 := rd_ext hrd q3.ext
      have l1 : ld Try.prog 66 (o + i * 6) cs = some (.agg (elm 6 xs i).toArray) := by rw [ld66]; exact (hcell _ hlt).1
      obtain ⟨op, ia, is, io, iw, y, ex, ky, ei⟩ := all2_instr x1
      rw [ei] at hpk hio
      clear hin
      generalize elm 6 xs i = x at *
      subst ex
      obtain ⟨a5, c5, e5⟩ := ky.1.slice
      have hr : IntRow H y (rowI H y) := ky.1
      have hrl := ky.2
      generalize rowI H y = m at *
      subst e5
      have wi : IntKind.i64.wrap ((i : Int) + 1) = ((i + 1 : Nat) : Int) := IntWalk.i64_in ((i : Int) + 1) (by omega)
      have hTl := pkT_len hok (i := i)
      simp -implicitDefEqProofs only [kz, kk0, kk1, kk2, kk3, ↓two_true, ↓two_false, mkv, aggAt, Nat.reduceLeDiff, Nat.reduceSub, Nat.reduceMul, implies_true, Nat.reduceEqDiff, reduceIte, Nat.reduceAdd, Nat.reduceBEq, reduceCtorEq, al66, ap22_22, bs22_0, bs22_1, bs22_2, bs22_5, cv3_5, fa63_0, fa63_1, fa63_2, fa66_0, fa66_1, fa66_2, fa66_3, ix29, ix64, ld3, ld64, ld66, ln29, ln64, st66, lv1, ki, k4, Int.toNat_natCast, Nat.mul_one, g1, l1]
      refine ⟨by omega, ?_⟩
      refine st_box q3 fun H4 q4 => ?_
      simp -implicitDefEqProofs only [kz, kk0, kk1, kk2, kk3, ↓two_true, ↓two_false, mkv, aggAt, Nat.reduceLeDiff, Nat.reduceSub, Nat.reduceMul, implies_true, Nat.reduceEqDiff, reduceIte, Nat.reduceAdd, Nat.reduceBEq, reduceCtorEq, al66, ap22_22, bs22_0, bs22_1, bs22_2, bs22_5, cv3_5, fa63_0, fa63_1, fa63_2, fa66_0, fa66_1, fa66_2, fa66_3, ix29, ix64, ld3, ld64, ld66, ln29, ln64, st66, lv1, ki, k4, q4.rd 0 rfl]
      refine st_set q4 0 rfl fun H5 q5 => ?_
      simp only [List.set_cons_zero, List.set_cons_succ] at q5
      simp -implicitDefEqProofs only [kz, kk0, kk1, kk2, kk3, ↓two_true, ↓two_false, mkv, aggAt, Nat.reduceLeDiff, Nat.reduceSub, Nat.reduceMul, implies_true, Nat.reduceEqDiff, reduceIte, Nat.reduceAdd, Nat.reduceBEq, reduceCtorEq, al66, ap22_22, bs22_0, bs22_1, bs22_2, bs22_5, cv3_5, fa63_0, fa63_1, fa63_2, fa66_0, fa66_1, fa66_2, fa66_3, ix29, ix64, ld3, ld64, ld66, ln29, ln64, st66, lv1, ki, k4, q5.rd 0 rfl]
      refine st_cells q5 fun H6 q6 => ?_
      simp -implicitDefEqProofs only [kz, kk0, kk1, kk2, kk3, ↓two_true, ↓two_false, mkv, aggAt, Nat.reduceLeDiff, Nat.reduceSub, Nat.reduceMul, implies_true, Nat.reduceEqDiff, reduceIte, Nat.reduceAdd, Nat.reduceBEq, reduceCtorEq, al66, ap22_22, bs22_0, bs22_1, bs22_2, bs22_5, cv3_5, fa63_0, fa63_1, fa63_2, fa66_0, fa66_1, fa66_2, fa66_3, ix29, ix64, ld3, ld64, ld66, ln29, ln64, st66, lv1, ki, k4, q6.rd 1 rfl]
      refine st_appB q6 2 0 rfl rfl (bts_len.symm) rfl rfl (by decide) (by omega) fun H7 q7 => ?_
      simp only [List.set_cons_zero, List.set_cons_succ] at q7
      simp -implicitDefEqProofs only [kz, kk0, kk1, kk2, kk3, ↓two_true, ↓two_false, mkv, aggAt, Nat.reduceLeDiff, Nat.reduceSub, Nat.reduceMul, implies_true, Nat.reduceEqDiff, reduceIte, Nat.reduceAdd, Nat.reduceBEq, reduceCtorEq, al66, ap22_22, bs22_0, bs22_1, bs22_2, bs22_5, cv3_5, fa63_0, fa63_1, fa63_2, fa66_0, fa66_1, fa66_2, fa66_3, ix29, ix64, ld3, ld64, ld66, ln29, ln64, st66, lv1, ki, k4, q7.rd 1 rfl]
      have e5 : bts (pkT l i) ++ [Value.int .u8 (IntKind.u8.wrap op), .int .u8 (IntKind.u8.wrap ia), .int .u8 (IntKind.u8.wrap is), .int .u8 (IntKind.u8.wrap io), .int .u8 (IntKind.u8.wrap iw)] = bts (pkT l i ++ [op, ia, is, io, iw].map IntKind.u8.wrap) := by rw [← bts_app]; rfl
      rw [e5] at q7
      have hWl : (pkT l i ++ [op, ia, is, io, iw].map IntKind.u8.wrap).length = (pkT l i).length + 5 := by simp
      by_cases hop : op = 1
      · subst hop
        have hnm := insOk_nums hio rfl
        simp only [numsOk, inB, Bool.and_eq_true, decide_eq_true_eq] at hnm
        obtain ⟨⟨hm1, hm2⟩, hnum⟩ := hnm
        try simp only at hm1 hm2 hnum
        have hrm : (m.length : Int).tmod 256 = (m.length : Int) % 256 := Int.tmod_eq_emod_of_nonneg (by omega)
        have hqu : IntKind.i64.wrap ((m.length : Int).tdiv 256) = (m.length : Int) / 256 := by rw [Int.tdiv_eq_ediv_of_nonneg (by omega), IntWalk.i64_in _ (by omega)]
        have n1 : ((1 : Int) != 1) = false := by decide
        simp -implicitDefEqProofs only [kz, kk0, kk1, kk2, kk3, ↓two_true, ↓two_false, mkv, aggAt, Nat.reduceLeDiff, Nat.reduceSub, Nat.reduceMul, implies_true, Nat.reduceEqDiff, reduceIte, Nat.reduceAdd, Nat.reduceBEq, reduceCtorEq, al66, ap22_22, bs22_0, bs22_1, bs22_2, bs22_5, cv3_5, fa63_0, fa63_1, fa63_2, fa66_0, fa66_1, fa66_2, fa66_3, ix29, ix64, ld3, ld64, ld66, ln29, ln64, st66, lv1, ki, k4, q7.rd 1 rfl, n1, bin_rem (show (256 : Int) ≠ 0 by decide), bin_quo (show (256 : Int) ≠ 0 by decide), hrm, hqu]
        refine st_cells q7 fun H8 q8 => ?_
        simp -implicitDefEqProofs only [kz, kk0, kk1, kk2, kk3, ↓two_true, ↓two_false, mkv, aggAt, Nat.reduceLeDiff, Nat.reduceSub, Nat.reduceMul, implies_true, Nat.reduceEqDiff, reduceIte, Nat.reduceAdd, Nat.reduceBEq, reduceCtorEq, al66, ap22_22, bs22_0, bs22_1, bs22_2, bs22_5, cv3_5, fa63_0, fa63_1, fa63_2, fa66_0, fa66_1, fa66_2, fa66_3, ix29, ix64, ld3, ld64, ld66, ln29, ln64, st66, lv1, ki, k4, q8.rd 2 rfl]
        refine st_appB q8 3 0 rfl rfl (by rw [bts_len, hWl]) rfl rfl (by decide) (by omega) fun H9 q9 => ?_
        simp only [List.set_cons_zero, List.set_cons_succ] at q9
        simp -implicitDefEqProofs only [kz, kk0, kk1, kk2, kk3, ↓two_true, ↓two_false, mkv, aggAt, Nat.reduceLeDiff, Nat.reduceSub, Nat.reduceMul, implies_true, Nat.reduceEqDiff, reduceIte, Nat.reduceAdd, Nat.reduceBEq, reduceCtorEq, al66, ap22_22, bs22_0, bs22_1, bs22_2, bs22_5, cv3_5, fa63_0, fa63_1, fa63_2, fa66_0, fa66_1, fa66_2, fa66_3, ix29, ix64, ld3, ld64, ld66, ln29, ln64, st66, lv1, ki, k4, q9.rd 2 rfl]
        have wmod : IntKind.u8.wrap ((m.length : Int) % 256) = IntKind.u8.wrap (m.length : Int) := by
          simp only [IntKind.wrap]
          rw [show (m.length : Int) % 256 % 2 ^ IntKind.u8.bits = (m.length : Int) % 2 ^ IntKind.u8.bits from (by show (m.length : Int) % 256 % 256 = (m.length : Int) % 256; omega)]
        have e7 : bts (pkT l i ++ [1, ia, is, io, iw].map IntKind.u8.wrap) ++ [Value.int .u8 (IntKind.u8.wrap ((m.length : Int) % 256)), .int .u8 (IntKind.u8.wrap ((m.length : Int) / 256))] = bts (pkT l i ++ [1, ia, is, io, iw].map IntKind.u8.wrap ++ [IntKind.u8.wrap (m.length : Int), IntKind.u8.wrap ((m.length : Int) / 256)]) := by
          rw [wmod]
          simp only [← bts_app]
          rfl
        rw [e7] at q9
        have hpI : pkI ⟨1, ia, is, io, iw, m⟩ = [1, ia, is, io, iw].map IntKind.u8.wrap ++ [IntKind.u8.wrap (m.length : Int), IntKind.u8.wrap ((m.length : Int) / 256)] ++ m.flatMap (fun n => le8 (n + 1000000000000)) := by
          unfold pkI; rw [if_pos rfl, List.append_assoc]
        rw [hpI] at hpk
        rw [← List.append_assoc, ← List.append_assoc] at hpk
        generalize hW : pkT l i ++ [1, ia, is, io, iw].map IntKind.u8.wrap ++ [IntKind.u8.wrap (m.length : Int), IntKind.u8.wrap ((m.length : Int) / 256)] = W at *
        have hW2 : W.length = (pkT l i).length + 5 + 2 := by rw [← hW]; simp
        clear hW e7 e5 hpI wmod hqu hrm
        refine rW_loopQ (σ := Nat × Nat) q9 [0, 5, 6] (fun x tm => tm 4 = .slice (some ⟨x.2, 0, none⟩) (W.length + x.1 * 8) 1 ∧ tm 7 = .int .i64 x.1 ∧ x.1 ≤ m.length) (fun x L => L.set 3 (.own (.box x.2 (bts (W ++ (m.take x.1).flatMap fun n => le8 (n + 1000000000000)))))) (fun x => m.length - x.1) (0, H8.length) ⟨by rw [hW2]; rfl, rfl, Nat.zero_le _⟩ (by simp only [List.take_zero, List.flatMap_nil, List.append_nil]; rfl) ?_
        rintro ⟨k, b2⟩ tm2 H10 ⟨mv1, mv2, mv3, -⟩ ⟨n4, nk, hkm⟩ q10
        simp -implicitDefEqProofs only [kz, kk0, kk1, kk2, kk3, ↓two_true, ↓two_false, mkv, aggAt, Nat.reduceLeDiff, Nat.reduceSub, Nat.reduceMul, implies_true, Nat.reduceEqDiff, reduceIte, Nat.reduceAdd, Nat.reduceBEq, reduceCtorEq, al66, ap22_22, bs22_0, bs22_1, bs22_2, bs22_5, cv3_5, fa63_0, fa63_1, fa63_2, fa66_0, fa66_1, fa66_2, fa66_3, ix29, ix64, ld3, ld64, ld66, ln29, ln64, st66, lv1, ki] at mv1 mv2 mv3
        simp only at n4 nk hkm
        simp only [List.set_cons_zero, List.set_cons_succ] at q10
        simp -implicitDefEqProofs only [kz, kk0, kk1, kk2, kk3, ↓two_true, ↓two_false, mkv, aggAt, Nat.reduceLeDiff, Nat.reduceSub, Nat.reduceMul, implies_true, Nat.reduceEqDiff, reduceIte, Nat.reduceAdd, Nat.reduceBEq, reduceCtorEq, al66, ap22_22, bs22_0, bs22_1, bs22_2, bs22_5, cv3_5, fa63_0, fa63_1, fa63_2, fa66_0, fa66_1, fa66_2, fa66_3, ix29, ix64, ld3, ld64, ld66, ln29, ln64, st66, mv1, mv2, mv3, n4, nk, q10.rd 2 rfl]
        refine two_intro (fun u3 => ?_) (fun u3 => ?_)
        · have hk2 : k < m.length := by have h5 := of_decide_eq_true u3; omega
          have wk : IntKind.i64.wrap ((k : Int) + 1) = ((k + 1 : Nat) : Int) := IntWalk.i64_in ((k : Int) + 1) (by omega)
          obtain ⟨a3, c3, e3, g3⟩ := (hr.ext q10.ext).op
          obtain ⟨b3, o3, cs3, rfl, rfl, fr3, -, fc3⟩ := g3 (by omega)
          simp only [Value.slice.injEq, true_and] at e3
          obtain ⟨rfl, rfl⟩ := e3
          have fc3 := fc3 k hk2
          have hnk := numOk_iff.1 (List.all_eq_true.1 hnum _ (List.getElem_mem hk2))
          have wx : IntKind.i64.wrap (m[k] + 1000000000000) = m[k] + 1000000000000 := IntWalk.i64_in _ (by omega)
          simp -implicitDefEqProofs only [kz, kk0, kk1, kk2, kk3, ↓two_true, ↓two_false, mkv, aggAt, Nat.reduceLeDiff, Nat.reduceSub, Nat.reduceMul, implies_true, Nat.reduceEqDiff, reduceIte, Nat.reduceAdd, Nat.reduceBEq, reduceCtorEq, al66, ap22_22, bs22_0, bs22_1, bs22_2, bs22_5, cv3_5, fa63_0, fa63_1, fa63_2, fa66_0, fa66_1, fa66_2, fa66_3, ix29, ix64, ld3, ld64, ld66, ln29, ln64, st66, mv1, mv2, mv3, n4, nk, q10.rd 2 rfl, Int.toNat_natCast, Nat.mul_one, fr3, fc3, wx]
          refine ⟨by omega, ?_⟩
          generalize hU : (W ++ (m.take k).flatMap fun n => le8 (n + 1000000000000)) = U at *
          have hlU : U.length = W.length + k * 8 := by rw [← hU, List.length_append, le8s_len, List.length_take, Nat.min_eq_left (by omega)]
          refine rW_loopQ (σ := Nat × Nat) q10 [0, 5, 6, 7, 8] (fun x tm => tm 4 = .slice (some ⟨x.2, 0, none⟩) (W.length + k * 8 + x.1) 1 ∧ tm 9 = .int .i64 x.1 ∧ x.1 ≤ 8) (fun x L => L.set 3 (.own (.box x.2 (bts (U ++ (le8 (m[k] + 1000000000000)).take x.1))))) (fun x => 8 - x.1) (0, b2) ⟨by first | rfl | exact n4, rfl, Nat.zero_le _⟩ (by simp only [List.take_zero, List.append_nil]; rfl) ?_
          rintro ⟨j, b4⟩ tm3 H11 ⟨ov1, ov2, ov3, ov4, ov5, -⟩ ⟨p4, pj, hj⟩ q11
          simp -implicitDefEqProofs only [kz, kk0, kk1, kk2, kk3, ↓two_true, ↓two_false, mkv, aggAt, Nat.reduceLeDiff, Nat.reduceSub, Nat.reduceMul, implies_true, Nat.reduceEqDiff, reduceIte, Nat.reduceAdd, Nat.reduceBEq, reduceCtorEq, al66, ap22_22, bs22_0, bs22_1, bs22_2, bs22_5, cv3_5, fa63_0, fa63_1, fa63_2, fa66_0, fa66_1, fa66_2, fa66_3, ix29, ix64, ld3, ld64, ld66, ln29, ln64, st66, mv1, mv2, mv3, nk] at ov1 ov2 ov3 ov4 ov5
          simp only at p4 pj hj
          simp only [List.set_cons_zero, List.set_cons_succ] at q11
          simp -implicitDefEqProofs only [kz, kk0, kk1, kk2, kk3, ↓two_true, ↓two_false, mkv, aggAt, Nat.reduceLeDiff, Nat.reduceSub, Nat.reduceMul, implies_true, Nat.reduceEqDiff, reduceIte, Nat.reduceAdd, Nat.reduceBEq, reduceCtorEq, al66, ap22_22, bs22_0, bs22_1, bs22_2, bs22_5, cv3_5, fa63_0, fa63_1, fa63_2, fa66_0, fa66_1, fa66_2, fa66_3, ix29, ix64, ld3, ld64, ld66, ln29, ln64, st66, ov1, ov2, ov3, ov4, ov5, p4, pj]
          refine two_intro (fun u4 => ?_) (fun u4 => ?_)
          · have hj2 : j < 8 := by have h5 := of_decide_eq_true u4; omega
            have wj : IntKind.i64.wrap ((j : Int) + 1) = ((j + 1 : Nat) : Int) := IntWalk.i64_in ((j : Int) + 1) (by omega)
            have w8 : IntKind.i64.wrap ((8 : Int) * (j : Int)) = (8 : Int) * (j : Int) := IntWalk.i64_in _ (by omega)
            have hsh := fun (t : TypeId) (p q : Operand) => bin_shr (P := Try.prog) (t := t) (x := p) (y := q) (k := .i64) (k' := .i64) (a := m[k] + 1000000000000) (b := (8 : Int) * (j : Int)) (by omega)
            simp only [shr8 hj2] at hsh
            simp -implicitDefEqProofs only [kz, kk0, kk1, kk2, kk3, ↓two_true, ↓two_false, mkv, aggAt, Nat.reduceLeDiff, Nat.reduceSub, Nat.reduceMul, implies_true, Nat.reduceEqDiff, reduceIte, Nat.reduceAdd, Nat.reduceBEq, reduceCtorEq, al66, ap22_22, bs22_0, bs22_1, bs22_2, bs22_5, cv3_5, fa63_0, fa63_1, fa63_2, fa66_0, fa66_1, fa66_2, fa66_3, ix29, ix64, ld3, ld64, ld66, ln29, ln64, st66, ov1, ov2, ov3, ov4, ov5, p4, pj, wj, w8, hsh]
            refine st_cells q11 fun H12 q12 => ?_
            simp -implicitDefEqProofs only [kz, kk0, kk1, kk2, kk3, ↓two_true, ↓two_false, mkv, aggAt, Nat.reduceLeDiff, Nat.reduceSub, Nat.reduceMul, implies_true, Nat.reduceEqDiff, reduceIte, Nat.reduceAdd, Nat.reduceBEq, reduceCtorEq, al66, ap22_22, bs22_0, bs22_1, bs22_2, bs22_5, cv3_5, fa63_0, fa63_1, fa63_2, fa66_0, fa66_1, fa66_2, fa66_3, ix29, ix64, ld3, ld64, ld66, ln29, ln64, st66, ov1, ov2, ov3, ov4, ov5, p4, pj]
            refine st_appB q12 4 0 rfl rfl (by rw [bts_len, List.length_append, List.length_take, le8_len, hlU]; omega) rfl rfl (by decide) (by omega) fun H13 q13 => ?_
            simp only [List.set_cons_zero, List.set_cons_succ] at q13
            simp -implicitDefEqProofs only [kz, kk0, kk1, kk2, kk3, ↓two_true, ↓two_false, mkv, aggAt, Nat.reduceLeDiff, Nat.reduceSub, Nat.reduceMul, implies_true, Nat.reduceEqDiff, reduceIte, Nat.reduceAdd, Nat.reduceBEq, reduceCtorEq, al66, ap22_22, bs22_0, bs22_1, bs22_2, bs22_5, cv3_5, fa63_0, fa63_1, fa63_2, fa66_0, fa66_1, fa66_2, fa66_3, ix29, ix64, ld3, ld64, ld66, ln29, ln64, st66, ov1, ov2, ov3, ov4, ov5, p4, pj, wj]
            refine ⟨(j + 1, H12.length), by simp only; omega, ⟨rfl, rfl, rfl, rfl, rfl, trivial⟩, ⟨rfl, rfl, hj2⟩, ?_⟩
            simp only [List.set_cons_zero, List.set_cons_succ]
            have e9 : bts (U ++ (le8 (m[k] + 1000000000000)).take j) ++ [Value.int .u8 (IntKind.u8.wrap ((m[k] + 1000000000000).fdiv (2 ^ (8 * j))))] = bts (U ++ (le8 (m[k] + 1000000000000)).take (j + 1)) := by
              rw [le8_take hj2, ← List.append_assoc]
              simp only [← bts_app]
              rfl
            rw [e9] at q13
            exact q13.pick [1, 2, 3, 4] _ rfl (by decide)
          · have hj2 : j = 8 := by have h5 := of_decide_eq_false u4; omega
            subst hj2
            rw [List.take_of_length_le (by rw [le8_len]; exact Nat.le_refl _)] at q11
            simp -implicitDefEqProofs only [kz, kk0, kk1, kk2, kk3, ↓two_true, ↓two_false, mkv, aggAt, Nat.reduceLeDiff, Nat.reduceSub, Nat.reduceMul, implies_true, Nat.reduceEqDiff, reduceIte, Nat.reduceAdd, Nat.reduceBEq, reduceCtorEq, al66, ap22_22, bs22_0, bs22_1, bs22_2, bs22_5, cv3_5, fa63_0, fa63_1, fa63_2, fa66_0, fa66_1, fa66_2, fa66_3, ix29, ix64, ld3, ld64, ld66, ln29, ln64, st66, ov1, ov2, ov3, ov4, ov5, p4, pj, wk]
            refine ⟨(k + 1, b4), by simp only; omega, ⟨?_, ?_, ?_, trivial⟩, ⟨?_, rfl, hk2⟩, ?_⟩
            · first | rfl | exact ov1.trans mv1.symm
            · first | rfl | exact ov2.trans mv2.symm
            · first | rfl | exact ov3.trans mv3.symm
            · simp only [Nat.add_mul, Nat.one_mul]; rfl
            · simp only [List.set_cons_zero, List.set_cons_succ]
              rw [List.take_succ_eq_append_getElem hk2, List.flatMap_append, List.flatMap_cons, List.flatMap_nil, List.append_nil, ← List.append_assoc, hU]
              exact q11
        · have hkl : k = m.length := by have h5 := of_decide_eq_false u3; omega
          subst hkl
          rw [List.take_length] at q10
          have hlW : (W ++ m.flatMap fun n => le8 (n + 1000000000000)).length = W.length + m.length * 8 := by rw [List.length_append, le8s_len]
          simp -implicitDefEqProofs only [kz, kk0, kk1, kk2, kk3, ↓two_true, ↓two_false, mkv, aggAt, Nat.reduceLeDiff, Nat.reduceSub, Nat.reduceMul, implies_true, Nat.reduceEqDiff, reduceIte, Nat.reduceAdd, Nat.reduceBEq, reduceCtorEq, al66, ap22_22, bs22_0, bs22_1, bs22_2, bs22_5, cv3_5, fa63_0, fa63_1, fa63_2, fa66_0, fa66_1, fa66_2, fa66_3, ix29, ix64, ld3, ld64, ld66, ln29, ln64, st66, mv1, mv2, mv3, n4, nk, wi]
          refine ⟨(i + 1, b2), by simp only; omega, ⟨?_, trivial⟩, ⟨?_, rfl, hlt⟩, ?_⟩
          · first | rfl | exact mv1.trans lv1.symm
          · rw [hpk, hlW]
          · simp only
            rw [hpk]
            exact q10.pick [3] _ rfl (by decide)
      · have ho1 : (op != 1) = true := bne_iff_ne.2 hop
        simp -implicitDefEqProofs only [kz, kk0, kk1, kk2, kk3, ↓two_true, ↓two_false, mkv, aggAt, Nat.reduceLeDiff, Nat.reduceSub, Nat.reduceMul, implies_true, Nat.reduceEqDiff, reduceIte, Nat.reduceAdd, Nat.reduceBEq, reduceCtorEq, al66, ap22_22, bs22_0, bs22_1, bs22_2, bs22_5, cv3_5, fa63_0, fa63_1, fa63_2, fa66_0, fa66_1, fa66_2, fa66_3, ix29, ix64, ld3, ld64, ld66, ln29, ln64, st66, lv1, ki, k4, ho1, wi]
        have hpI : pkI ⟨op, ia, is, io, iw, m⟩ = [op, ia, is, io, iw].map IntKind.u8.wrap := by unfold pkI; rw [if_neg hop, List.append_nil]
        refine ⟨(i + 1, H6.length), by simp only; omega, ⟨rfl, trivial⟩, ⟨?_, rfl, hlt⟩, ?_⟩
        · rw [hpk, hpI, hWl]
        · simp only
          rw [hpk, hpI]
          exact q7.pick [2] _ rfl (by decide)
    · have hil : i = n := by have h5 := of_decide_eq_false u2; omega
      subst hil
      have hpg : pkT l l.length = pkG l := by unfold pkT pkG; rw [List.take_length]
      rw [hll] at hpg
      rw [hpg] at q3
      try simp -implicitDefEqProofs only [kz, kk0, kk1, kk2, kk3, ↓two_true, ↓two_false, mkv, aggAt, Nat.reduceLeDiff, Nat.reduceSub, Nat.reduceMul, implies_true, Nat.reduceEqDiff, reduceIte, Nat.reduceAdd, Nat.reduceBEq, reduceCtorEq, al66, ap22_22, bs22_0, bs22_1, bs22_2, bs22_5, cv3_5, fa63_0, fa63_1, fa63_2, fa66_0, fa66_1, fa66_2, fa66_3, ix29, ix64, ld3, ld64, ld66, ln29, ln64, st66, lv1, ki, k4]
      rw [hk, hpg]
      have hA : pkA l = pkG l := by unfold pkA; rw [if_pos hk]
      rw [hA]
      exact ⟨⟨_, rfl, .inr ⟨bo, rfl, q3.bxlt 0 rfl, q3.bx 0 rfl⟩⟩, q3.ext⟩

def orI (k : IntKind) (a b : Int) : Int := k.wrap ((BitVec.ofInt k.bits a ||| BitVec.ofInt k.bits b).toNat : Int)
theorem bin_or {P : Program} {t : TypeId} {x y : Operand} {k : IntKind} {a b : Int} : aBin P .or t x y (.int k a) (.int k b) = some (.int k (orI k a b)) := by
  simp [aBin, scal, scal1, eqGuard, binOp, Op.intBits, runP, told, pure, bind, Sem.bind, orI]
theorem bin_shl {P : Program} {t : TypeId} {x y : Operand} {k k' : IntKind} {a b : Int} (h : ¬ b < 0) : aBin P .shl t x y (.int k a) (.int k' b) = some (.int k (k.wrap (a * 2 ^ (min b.toNat k.bits)))) := by
  simp [aBin, scal, scal1, eqGuard, binOp, Op.shift, runP, told, pure, bind, Sem.bind, h]
theorem or_add {a b i : Nat} (h : b < 2 ^ i) (hs : 2 ^ i * a + b < 2 ^ 64) : (BitVec.ofInt 64 ((2 ^ i * a : Nat) : Int) ||| BitVec.ofInt 64 (b : Int)).toNat = 2 ^ i * a + b := by
  rw [BitVec.toNat_or, BitVec.ofInt_natCast, BitVec.ofInt_natCast, BitVec.toNat_ofNat, BitVec.toNat_ofNat, Nat.mod_eq_of_lt (by omega), Nat.mod_eq_of_lt (by omega), Nat.two_pow_add_eq_or_of_lt h]
theorem u64_in {x : Int} (h : 0 ≤ x ∧ x < 18446744073709551616) : IntKind.u64.wrap x = x := by
  unfold IntKind.wrap
  have e1 : IntKind.u64.signed = false := rfl
  have e2 : (2 : Int) ^ IntKind.u64.bits = 18446744073709551616 := by decide
  rw [e1, e2, if_neg (by simp)]
  omega
/-- A number of k bytes, the lowest first; what is not there is nought. -/
def loF : Nat → List Int → Int
  | 0, _ => 0
  | k + 1, r => r.headD 0 + 256 * loF k r.tail
/-- The numbers of a row of bytes. -/
def byOk (l : List Int) : Prop := ∀ x ∈ l, 0 ≤ x ∧ x ≤ 255
theorem byOk.tail {l : List Int} (h : byOk l) : byOk l.tail := fun x hx => h x (List.mem_of_mem_tail hx)
theorem byOk.drop {l : List Int} (h : byOk l) (k : Nat) : byOk (l.drop k) := fun x hx => h x (List.mem_of_mem_drop hx)
theorem byOk.head {l : List Int} (h : byOk l) : 0 ≤ l.headD 0 ∧ l.headD 0 ≤ 255 := by
  cases l with
  | nil => simp
  | cons x t => exact h x (List.mem_cons_self ..)
theorem loF_nn : ∀ {k : Nat} {r : List Int}, byOk r → 0 ≤ loF k r ∧ loF k r < 256 ^ k
  | 0, _, _ => by simp [loF]
  | k + 1, r, h => by
    have h1 := h.head
    have h2 := loF_nn (k := k) h.tail
    simp only [loF]
    rw [Int.pow_succ]
    omega
theorem loF_snoc : ∀ {k : Nat} {r : List Int}, loF (k + 1) r = loF k r + 256 ^ k * (r.drop k).headD 0
  | 0, r => by simp [loF]
  | k + 1, r => by
    have ih := loF_snoc (k := k) (r := r.tail)
    rw [loF, ih, loF, List.drop_tail, Int.pow_succ, Int.mul_add, ← Int.mul_assoc, Int.mul_comm 256 (256 ^ k), Int.add_assoc]
def rdNums (f : Int → Option Int) : Nat → List Int → Option (List Int × List Int)
  | 0, r => some ([], r)
  | k + 1, r => if r.length < 8 then none else match f (loF 8 r) with
    | none => none
    | some y => (rdNums f k (r.drop 8)).map fun z => (y :: z.1, z.2)
def rdIns (f : Int → Option Int) (r : List Int) : Option (List CV × List Int) :=
  if r.length < 5 then none
  else if r.headD 0 = 1 then
    (if r.length < 7 then none else (rdNums f (loF 2 (r.drop 5)).toNat (r.drop 7)).map fun z => ([.i (r.headD 0), .i (r.tail.headD 0), .i (r.tail.tail.headD 0), .i (r.tail.tail.tail.headD 0), .i (r.tail.tail.tail.tail.headD 0), .r z.1], z.2))
  else some ([.i (r.headD 0), .i (r.tail.headD 0), .i (r.tail.tail.headD 0), .i (r.tail.tail.tail.headD 0), .i (r.tail.tail.tail.tail.headD 0), .r []], r.drop 5)
def rdAll (f : Int → Option Int) : Nat → List Int → Option (List CV × List Int)
  | 0, r => some ([], r)
  | k + 1, r => match rdIns f r with
    | none => none
    | some z => (rdAll f k z.2).map fun w => (z.1 ++ w.1, w.2)
set_option maxHeartbeats 4000000 in
theorem rdAll_ok {f : Int → Option Int} {r r' : List Int} {cs V : List CV} {k : Nat} (h : rdIns f r = some (cs, r')) : (rdAll f (k + 1) r).map (fun w => (V ++ w.1, w.2)) = (rdAll f k r').map fun w => ((V ++ cs) ++ w.1, w.2) := by
  rw [rdAll, h]
  simp only [Option.map_map]
  congr 1
  funext w
  simp
theorem rdAll_bad {f : Int → Option Int} {r : List Int} {k : Nat} (h : rdIns f r = none) : rdAll f (k + 1) r = none := by
  rw [rdAll, h]
/-- How impl and spec take a number. -/
def nfI (y : Int) : Option Int := if y > 2000000000000 then none else some (y - 1000000000000)
def nfS (y : Int) : Option Int := some (IntKind.i64.wrap (IntKind.i64.wrap y - 1000000000000))
theorem ByRow.tl {H : AH} {v : Value} {x : Int} {t : List Int} (h : ByRow H v (x :: t)) : ∃ b o, v = .slice (some ⟨b, o, none⟩) (t.length + 1) 1 ∧ ByRow H (.slice (some ⟨b, o + 1, none⟩) t.length 1) t := by
  rcases h with ⟨_, h2⟩ | ⟨b, o, cs, rfl, h1, h2, h3⟩
  · cases h2
  · refine ⟨b, o, rfl, .inr ⟨b, o + 1, cs, rfl, h1, by simp at h2; omega, ?_⟩⟩
    have h4 : (cs.drop o).take (t.length + 1) = .int .u8 x :: bts t := h3
    have h5 := congrArg (fun l => l.drop 1) h4
    simp only [List.drop_take, List.drop_drop, List.drop_succ_cons, List.drop_zero] at h5
    exact h5
structure RdSt (H : AH) (rb : Nat) (sl : Value) (bad : Bool) (r : List Int) : Prop where
  bx : H[rb]? = some ⟨[sl, .bool bad], .own⟩
  row : ByRow H sl r
  ne : blkOf sl ≠ some rb
structure Adv (H H' : AH) (rb : Nat) (sl : Value) (r : List Int) (sl' : Value) (bad' : Bool) (r' : List Int) : Prop where
  eq : H' = H.set rb ⟨[sl', .bool bad'], .own⟩
  row : ∀ G, ByRow G sl r → ByRow G sl' r'
  ne : blkOf sl ≠ some rb → blkOf sl' ≠ some rb
theorem Adv.st {H H' : AH} {rb : Nat} {sl sl' : Value} {bad bad' : Bool} {r r' : List Int} (a : Adv H H' rb sl r sl' bad' r') (h : RdSt H rb sl bad r) : RdSt H' rb sl' bad' r' := by
  have hl := (List.getElem?_eq_some_iff.1 h.bx).1
  have hn := a.ne h.ne
  refine ⟨by rw [a.eq, List.getElem?_set_self hl], (a.row H h.row).same fun b hb => ?_, hn⟩
  have : rb ≠ b := by rintro rfl; exact hn hb
  unfold rd
  rw [a.eq, List.getElem?_set_ne this]
theorem Adv.trans {H H1 H2 : AH} {rb : Nat} {sl sl1 sl2 : Value} {b1 b2 : Bool} {r r1 r2 : List Int} (a : Adv H H1 rb sl r sl1 b1 r1) (b : Adv H1 H2 rb sl1 r1 sl2 b2 r2) : Adv H H2 rb sl r sl2 b2 r2 :=
  ⟨by rw [b.eq, a.eq, list_set_set], fun G h => b.row G (a.row G h), fun h => b.ne (a.ne h)⟩

set_option maxHeartbeats 4000000 in
theorem rdOne_ok {H : AH} {rb : Nat} {sl : Value} {bad : Bool} {r : List Int} (h : RdSt H rb sl bad r) (hy : byOk r) (hl : r.length ≤ 1048576) :
    CallsA Try.prog 43 #[.pointer (some ⟨rb, 0, none⟩)] H fun res H' => ∃ sl', res = .int .i64 (r.headD 0) ∧ Adv H H' rb sl r sl' (bad || r.isEmpty) r.tail := by
  obtain ⟨hb, hr, hne⟩ := h
  obtain ⟨a, c, rfl, g⟩ := hr.op
  refine w43 ?_
  unfold k43
  simp -implicitDefEqProofs only [kz, kk0, kk1, kk2, kk3, ↓two_true, ↓two_false, oS_some, oM_some, mkv, aggAt, Nat.reduceLeDiff, Nat.reduceSub, Nat.reduceMul, implies_true, Nat.reduceEqDiff, reduceIte, Nat.reduceAdd, Nat.reduceBEq, reduceCtorEq, cv5_3, fa71_0, fa71_1, ix22, ld5, ld22, ln22, sn22, sl22, st4, st22, rd_own hb, wrt_own hb]
  refine two_intro (fun u => ?_) (fun u => ?_)
  · have h0 : r.length = 0 := by simpa using u
    obtain rfl : r = [] := List.eq_nil_of_length_eq_zero h0
    simp -implicitDefEqProofs only [kz, kk0, kk1, kk2, kk3, ↓two_true, ↓two_false, oS_some, oM_some, mkv, aggAt, Nat.reduceLeDiff, Nat.reduceSub, Nat.reduceMul, implies_true, Nat.reduceEqDiff, reduceIte, Nat.reduceAdd, Nat.reduceBEq, reduceCtorEq, cv5_3, fa71_0, fa71_1, ix22, ld5, ld22, ln22, sn22, sl22, st4, st22, rd_own hb, wrt_own hb]
    refine ⟨_, rfl, ?_, fun G h => h, fun h => h⟩
    simp
  · have h0 : r.length ≠ 0 := by simpa using u
    cases r with
    | nil => exact absurd rfl h0
    | cons x t =>
      obtain ⟨b, o, cs, rfl, rfl, hrd, hle, hcell⟩ := g (by simp)
      have hc := hcell 0 (by simp)
      simp only [List.getElem_cons_zero, Nat.add_zero] at hc
      have hx := hy x (List.mem_cons_self ..)
      have wx : IntKind.i64.wrap x = x := IntWalk.i64_in _ (by omega)
      have z0 : Int.toNat 0 = 0 := rfl
      have z1 : Int.toNat 1 = 1 := rfl
      have g0 : (0 : Int) ≤ 0 ∧ (0 : Int) < ((t.length + 1 : Nat) : Int) := by omega
      have g1 : (0 : Int) ≤ 1 ∧ (1 : Int) ≤ ((t.length + 1 : Nat) : Int) ∧ ((t.length + 1 : Nat) : Int) ≤ ((t.length + 1 : Nat) : Int) := by omega
      simp -implicitDefEqProofs only [kz, kk0, kk1, kk2, kk3, ↓two_true, ↓two_false, oS_some, oM_some, mkv, aggAt, Nat.reduceLeDiff, Nat.reduceSub, Nat.reduceMul, implies_true, Nat.reduceEqDiff, reduceIte, Nat.reduceAdd, Nat.reduceBEq, reduceCtorEq, cv5_3, fa71_0, fa71_1, ix22, ld5, ld22, ln22, sn22, sl22, st4, st22, rd_own hb, wrt_own hb, hrd, hc, wx, z0, z1, Nat.zero_mul, Nat.one_mul, Int.toNat_natCast, Nat.add_sub_cancel, if_pos g0, if_pos g1]
      refine ⟨.slice (some ⟨b, o + 1, none⟩) t.length 1, rfl, ⟨by simp, fun G hG => ?_, fun h e => h (by simpa [blkOf] using e)⟩⟩
      obtain ⟨b', o', e, h2⟩ := hG.tl
      simp only [List.length_cons, Value.slice.injEq, Option.some.injEq, Addr.mk.injEq] at e
      obtain ⟨⟨rfl, rfl, _⟩, _⟩ := e
      exact h2

set_option maxHeartbeats 4000000 in
theorem rdTwo_ok {H : AH} {rb : Nat} {sl : Value} {bad : Bool} {r : List Int} (h : RdSt H rb sl bad r) (hy : byOk r) (hl : r.length ≤ 1048576) :
    CallsA Try.prog 44 #[.pointer (some ⟨rb, 0, none⟩)] H fun res H' => ∃ sl', res = .int .i64 (loF 2 r) ∧ Adv H H' rb sl r sl' (bad || decide (r.length < 2)) (r.drop 2) := by
  refine w44 ?_
  unfold k44
  simp -implicitDefEqProofs only [kz, kk0, kk1, kk2, kk3, ↓two_true, ↓two_false, mkv, aggAt, Nat.reduceLeDiff, Nat.reduceSub, Nat.reduceMul, implies_true, Nat.reduceEqDiff, reduceIte, Nat.reduceAdd, Nat.reduceBEq, reduceCtorEq]
  refine (rdOne_ok h hy hl).mono ?_
  rintro _ H1 ⟨sl1, rfl, a1⟩
  have h1 := a1.st h
  simp -implicitDefEqProofs only [kz, kk0, kk1, kk2, kk3, ↓two_true, ↓two_false, mkv, aggAt, Nat.reduceLeDiff, Nat.reduceSub, Nat.reduceMul, implies_true, Nat.reduceEqDiff, reduceIte, Nat.reduceAdd, Nat.reduceBEq, reduceCtorEq]
  refine (rdOne_ok h1 hy.tail (by simp; omega)).mono ?_
  rintro _ H2 ⟨sl2, rfl, a2⟩
  have e1 := hy.head
  have e2 := hy.tail.head
  have w1 : IntKind.i64.wrap (256 * r.tail.headD 0) = 256 * r.tail.headD 0 := IntWalk.i64_in _ (by omega)
  have w2 : IntKind.i64.wrap (r.headD 0 + 256 * r.tail.headD 0) = r.headD 0 + 256 * r.tail.headD 0 := IntWalk.i64_in _ (by omega)
  simp -implicitDefEqProofs only [kz, kk0, kk1, kk2, kk3, ↓two_true, ↓two_false, mkv, aggAt, Nat.reduceLeDiff, Nat.reduceSub, Nat.reduceMul, implies_true, Nat.reduceEqDiff, reduceIte, Nat.reduceAdd, Nat.reduceBEq, reduceCtorEq, w1, w2]
  refine ⟨sl2, by simp [loF], ?_⟩
  have a3 := a1.trans a2
  have eb : (bad || r.isEmpty || r.tail.isEmpty) = (bad || decide (r.length < 2)) := by
    match r with
    | [] => simp
    | [x] => simp
    | x :: y :: t => simp; omega
  rw [eb] at a3
  have : r.drop 2 = r.tail.tail := by
    match r with
    | [] => rfl
    | [x] => rfl
    | x :: y :: t => rfl
  rw [this]
  exact a3

set_option maxHeartbeats 4000000 in
theorem rdNum_ok {H : AH} {rb : Nat} {sl : Value} {bad : Bool} {r : List Int} (h : RdSt H rb sl bad r) (hy : byOk r) (hl : r.length ≤ 1048576) :
    CallsA Try.prog 45 #[.pointer (some ⟨rb, 0, none⟩)] H fun res H' => ∃ sl', res = .int .i64 ((nfI (loF 8 r)).getD 0) ∧ Adv H H' rb sl r sl' (bad || decide (r.length < 8) || (nfI (loF 8 r)).isNone) (r.drop 8) := by
  refine w45 ?_
  unfold k45
  simp -implicitDefEqProofs only [kz, kk0, kk1, kk2, kk3, ↓two_true, ↓two_false, mkv, aggAt, Nat.reduceLeDiff, Nat.reduceSub, Nat.reduceMul, implies_true, Nat.reduceEqDiff, reduceIte, Nat.reduceAdd, Nat.reduceBEq, reduceCtorEq, cv3_101, cv101_3, fa71_1, st4]
  refine rW_loop (σ := Nat × Value) (fun x tm H' => tm 0 = .pointer (some ⟨rb, 0, none⟩) ∧ tm 3 = .int .u64 (loF x.1 r) ∧ tm 4 = .int .i64 x.1 ∧ x.1 ≤ 8 ∧ Adv H H' rb sl r x.2 (bad || decide (r.length < x.1)) (r.drop x.1)) (fun x => 8 - x.1) (0, sl) ?_ ?_
  · refine ⟨?_, ?_, ?_, Nat.zero_le _, ⟨?_, fun G h => h, fun h => h⟩⟩
    · simp -implicitDefEqProofs [kk0, kk1, kk2, kk3, rW_block, ↓two_true, ↓two_false, rW_cond, rO_guard, oS_some, oM_some, mkv, aggAt, Nat.reduceLeDiff, Nat.reduceSub, Nat.reduceMul, cond_true, cond_false, Option.bind_some, List.length_append, List.length_cons, List.length_nil, List.append_assoc, List.cons_append, List.nil_append, List.set_cons_zero, List.set_cons_succ, List.size_toArray, List.all_cons, List.all_nil, List.drop_zero, List.drop_succ_cons, List.take_succ_cons, List.take_zero, List.mem_cons, Prod.mk.injEq, List.not_mem_nil, implies_true, List.getElem?_toArray, List.getElem?_cons_zero, List.getElem?_cons_succ, List.getElem?_nil, Option.getD_some, Option.getD_none, Nat.reduceEqDiff, reduceIte, Nat.reduceAdd, List.map_toArray, List.map_cons, List.map_nil, Bool.false_eq_true, Nat.reduceBEq, Option.map_some, Option.map_none, reduceCtorEq, cv3_101, cv101_3, fa71_1, st4]
    · simp -implicitDefEqProofs [kk0, kk1, kk2, kk3, rW_block, ↓two_true, ↓two_false, rW_cond, rO_guard, oS_some, oM_some, mkv, aggAt, Nat.reduceLeDiff, Nat.reduceSub, Nat.reduceMul, cond_true, cond_false, Option.bind_some, List.length_append, List.length_cons, List.length_nil, List.append_assoc, List.cons_append, List.nil_append, List.set_cons_zero, List.set_cons_succ, List.size_toArray, List.all_cons, List.all_nil, List.drop_zero, List.drop_succ_cons, List.take_succ_cons, List.take_zero, List.mem_cons, Prod.mk.injEq, List.not_mem_nil, implies_true, List.getElem?_toArray, List.getElem?_cons_zero, List.getElem?_cons_succ, List.getElem?_nil, Option.getD_some, Option.getD_none, Nat.reduceEqDiff, reduceIte, Nat.reduceAdd, List.map_toArray, List.map_cons, List.map_nil, Bool.false_eq_true, Nat.reduceBEq, Option.map_some, Option.map_none, reduceCtorEq, cv3_101, cv101_3, fa71_1, st4, loF]
    · simp -implicitDefEqProofs [kk0, kk1, kk2, kk3, rW_block, ↓two_true, ↓two_false, rW_cond, rO_guard, oS_some, oM_some, mkv, aggAt, Nat.reduceLeDiff, Nat.reduceSub, Nat.reduceMul, cond_true, cond_false, Option.bind_some, List.length_append, List.length_cons, List.length_nil, List.append_assoc, List.cons_append, List.nil_append, List.set_cons_zero, List.set_cons_succ, List.size_toArray, List.all_cons, List.all_nil, List.drop_zero, List.drop_succ_cons, List.take_succ_cons, List.take_zero, List.mem_cons, Prod.mk.injEq, List.not_mem_nil, implies_true, List.getElem?_toArray, List.getElem?_cons_zero, List.getElem?_cons_succ, List.getElem?_nil, Option.getD_some, Option.getD_none, Nat.reduceEqDiff, reduceIte, Nat.reduceAdd, List.map_toArray, List.map_cons, List.map_nil, Bool.false_eq_true, Nat.reduceBEq, Option.map_some, Option.map_none, reduceCtorEq, cv3_101, cv101_3, fa71_1, st4]
    · have hlt := (List.getElem?_eq_some_iff.1 h.bx).1
      refine List.ext_getElem? fun k => ?_
      by_cases e : rb = k
      · subst e; rw [List.getElem?_set_self hlt, h.bx]; simp
      · rw [List.getElem?_set_ne e]
  · rintro ⟨i, sl1⟩ tm H1 ⟨h0, h3, h4, hi, a1⟩
    simp only at h0 h3 h4 hi a1
    have h1 := a1.st h
    simp -implicitDefEqProofs only [kz, kk0, kk1, kk2, kk3, ↓two_true, ↓two_false, mkv, aggAt, Nat.reduceLeDiff, Nat.reduceSub, Nat.reduceMul, implies_true, Nat.reduceEqDiff, reduceIte, Nat.reduceAdd, Nat.reduceBEq, reduceCtorEq, cv3_101, cv101_3, fa71_1, st4, h0, h3, h4]
    refine two_intro (fun u => ?_) (fun u => ?_)
    · have hi2 : i < 8 := by have h5 := of_decide_eq_true u; omega
      have wi : IntKind.i64.wrap ((i : Int) + 1) = ((i + 1 : Nat) : Int) := IntWalk.i64_in ((i : Int) + 1) (by omega)
      have w8 : IntKind.i64.wrap ((8 : Int) * (i : Int)) = (8 : Int) * (i : Int) := IntWalk.i64_in _ (by omega)
      try simp -implicitDefEqProofs only [kz, kk0, kk1, kk2, kk3, ↓two_true, ↓two_false, mkv, aggAt, Nat.reduceLeDiff, Nat.reduceSub, Nat.reduceMul, implies_true, Nat.reduceEqDiff, reduceIte, Nat.reduceAdd, Nat.reduceBEq, reduceCtorEq, cv3_101, cv101_3, fa71_1, st4, h0, h3, h4]
      refine (rdOne_ok h1 (hy.drop i) (by simp; omega)).mono ?_
      rintro _ H2 ⟨sl2, rfl, a2⟩
      have hx := (hy.drop i).head
      have wx : IntKind.u64.wrap ((r.drop i).headD 0) = (r.drop i).headD 0 := u64_in (by omega)
      obtain ⟨n1, n2⟩ := loF_nn (k := i) hy
      obtain ⟨n3, n4⟩ := loF_nn (k := i + 1) hy
      have es := loF_snoc (k := i) (r := r)
      have hsh := fun (t : TypeId) (p q : Operand) => bin_shl (P := Try.prog) (t := t) (x := p) (y := q) (k := .u64) (k' := .i64) (a := (r.drop i).headD 0) (b := (8 : Int) * (i : Int)) (by omega)
      have e28 : (2 : Int) ^ (min (((8 : Int) * (i : Int)).toNat) IntKind.u64.bits) = 256 ^ i := by
        rw [show ((8 : Int) * (i : Int)).toNat = 8 * i by omega, Nat.min_eq_left (by show 8 * i ≤ 64; omega), Int.pow_mul]; rfl
      have hmul : (r.drop i).headD 0 * 256 ^ i = 256 ^ i * (r.drop i).headD 0 := Int.mul_comm _ _
      have hbig : (256 : Int) ^ (i + 1) ≤ 18446744073709551616 := by
        have : i = 0 ∨ i = 1 ∨ i = 2 ∨ i = 3 ∨ i = 4 ∨ i = 5 ∨ i = 6 ∨ i = 7 := by omega
        rcases this with rfl | rfl | rfl | rfl | rfl | rfl | rfl | rfl <;> decide
      have hm0 : 0 ≤ 256 ^ i * (r.drop i).headD 0 := Int.mul_nonneg (Int.le_of_lt (Int.pow_pos (by decide))) hx.1
      have wsh : IntKind.u64.wrap ((r.drop i).headD 0 * 256 ^ i) = 256 ^ i * (r.drop i).headD 0 := by rw [hmul]; exact u64_in ⟨hm0, by omega⟩
      simp only [e28, wsh] at hsh
      have hor : orI .u64 (loF i r) (256 ^ i * (r.drop i).headD 0) = loF (i + 1) r := by
        obtain ⟨A, hA⟩ : ∃ A : Nat, loF i r = A := ⟨(loF i r).toNat, by omega⟩
        obtain ⟨D, hD⟩ : ∃ D : Nat, (r.drop i).headD 0 = D := ⟨((r.drop i).headD 0).toNat, by omega⟩
        have ep : (256 : Int) ^ i = ((2 ^ (8 * i) : Nat) : Int) := by rw [Nat.pow_mul]; simp
        have eb : (256 : Int) ^ i * (r.drop i).headD 0 = ((2 ^ (8 * i) * D : Nat) : Int) := by rw [hD, ep, Int.natCast_mul]
        have hA2 : A < 2 ^ (8 * i) := by rw [hA, ep] at n2; omega
        have hs : 2 ^ (8 * i) * D + A < 2 ^ 64 := by
          rw [es, hA, eb] at n4
          have : (2 : Nat) ^ 64 = 18446744073709551616 := by decide
          omega
        rw [eb, hA]
        have ho := or_add hA2 hs
        unfold orI
        show IntKind.u64.wrap ((BitVec.ofInt 64 (A : Int) ||| BitVec.ofInt 64 ((2 ^ (8 * i) * D : Nat) : Int)).toNat : Int) = _
        have h64 : (2 : Nat) ^ 64 = 18446744073709551616 := by decide
        have hu : IntKind.u64.wrap ((2 ^ (8 * i) * D + A : Nat) : Int) = ((2 ^ (8 * i) * D + A : Nat) : Int) := u64_in ⟨by omega, by omega⟩
        rw [BitVec.or_comm, ho, hu, es, hA, eb]
        omega
      simp -implicitDefEqProofs only [kz, kk0, kk1, kk2, kk3, ↓two_true, ↓two_false, mkv, aggAt, Nat.reduceLeDiff, Nat.reduceSub, Nat.reduceMul, implies_true, Nat.reduceEqDiff, reduceIte, Nat.reduceAdd, Nat.reduceBEq, reduceCtorEq, cv3_101, cv101_3, fa71_1, st4, h0, h3, h4, wi, w8, wx, hsh, bin_or, hor]
      have eb : (bad || decide (r.length < i) || (r.drop i).isEmpty) = (bad || decide (r.length < i + 1)) := by
        rw [Bool.or_assoc]
        congr 1
        rw [Bool.eq_iff_iff]
        simp
        omega
      have a3 := a1.trans a2
      rw [eb, List.tail_drop] at a3
      exact ⟨(i + 1, sl2), by simp only; omega, rfl, rfl, hi2, a3⟩
    · have hi2 : i = 8 := by have h5 := of_decide_eq_false u; omega
      subst hi2
      obtain ⟨n1, n2⟩ := loF_nn (k := 8) hy
      try simp -implicitDefEqProofs only [kz, kk0, kk1, kk2, kk3, ↓two_true, ↓two_false, mkv, aggAt, Nat.reduceLeDiff, Nat.reduceSub, Nat.reduceMul, implies_true, Nat.reduceEqDiff, reduceIte, Nat.reduceAdd, Nat.reduceBEq, reduceCtorEq, cv3_101, cv101_3, fa71_1, st4, h0, h3, h4, wrt_own h1.bx]
      refine two_intro (fun u2 => ?_) (fun u2 => ?_)
      · have hg : loF 8 r > 2000000000000 := of_decide_eq_true u2
        have en : nfI (loF 8 r) = none := by unfold nfI; rw [if_pos hg]
        rw [en]
        try simp -implicitDefEqProofs only [kz, kk0, kk1, kk2, kk3, ↓two_true, ↓two_false, oS_some, oM_some, mkv, aggAt, Nat.reduceLeDiff, Nat.reduceSub, Nat.reduceMul, implies_true, Nat.reduceEqDiff, reduceIte, Nat.reduceAdd, Nat.reduceBEq, reduceCtorEq, cv3_101, cv101_3, fa71_1, st4, h0, h3, h4, wrt_own h1.bx]
        refine ⟨sl1, ?_⟩
        have a2 : Adv H1 (H1.set rb ⟨[sl1, .bool true], .own⟩) rb sl1 (r.drop 8) sl1 true (r.drop 8) := ⟨rfl, fun G h => h, fun h => h⟩
        have a3 := a1.trans a2
        simpa using a3
      · have hg : ¬ loF 8 r > 2000000000000 := of_decide_eq_false u2
        have en : nfI (loF 8 r) = some (loF 8 r - 1000000000000) := by unfold nfI; rw [if_neg hg]
        rw [en]
        have w1 : IntKind.i64.wrap (loF 8 r) = loF 8 r := IntWalk.i64_in _ (by omega)
        have w2 : IntKind.i64.wrap (loF 8 r - 1000000000000) = loF 8 r - 1000000000000 := IntWalk.i64_in _ (by omega)
        simp -implicitDefEqProofs only [kz, kk0, kk1, kk2, kk3, ↓two_true, ↓two_false, mkv, aggAt, Nat.reduceLeDiff, Nat.reduceSub, Nat.reduceMul, implies_true, Nat.reduceEqDiff, reduceIte, Nat.reduceAdd, Nat.reduceBEq, reduceCtorEq, cv3_101, cv101_3, fa71_1, st4, h0, h3, h4, w1, w2]
        exact ⟨sl1, by simpa using a1⟩

theorem LB.ins {B : Nat → Prop} {c : Option Nat} {H0 H : AH} {L : List Ix} {x : Ix} (h : LB B c H0 H L) (hx : x.ok B H) (hb : ∀ b, x.bs b → ¬ B b ∧ H0.length ≤ b ∧ (∀ (i : Nat) y, L[i]? = some y → ¬ y.bs b) ∧ ∀ cb, c = some cb → cb ≠ b) : LB B c H0 H (x :: L) := by
  refine ⟨?_, ?_, ?_, h.len, h.keep, h.b0, h.bl, h.cur, ?_⟩
  · rintro (_ | i) y hy
    · cases hy; exact hx
    · exact h.ok i y hy
  · rintro (_ | i) y hy b hb2
    · cases hy; exact ⟨(hb b hb2).1, (hb b hb2).2.1⟩
    · exact h.fr i y hy b hb2
  · rintro (_ | i) (_ | j) y z hne hy hz b e1 e2
    · exact hne rfl
    · cases hy; exact (hb b e1).2.2.1 j z hz e2
    · cases hz; exact (hb b e2).2.2.1 i y hy e1
    · exact h.dj i j y z (by omega) hy hz b e1 e2
  · rintro cb e (_ | i) y hy h2
    · cases hy; exact (hb cb h2).2.2.2 cb e rfl
    · exact h.nc cb e i y hy h2
/-- A new element of a table that is held; the row of numbers in it is held no more by itself. -/
theorem st_insC {c : Option Nat} {H0 H : AH} {L' : List Ix} {v p : Value} {ks : List CK} {n s : Nat} {xs x : List Value} {V : List CV} {m : List Int} {Φ : Value → AH → Prop} (hs : ks.length = s)
    (q : LX c H0 H (.own (.cmp (.row v ks n xs) V) :: .own (.row p m) :: L')) (hx : All2 H ks x) (ho : ∀ y ∈ x, OwnC H y) (hdj : x.Pairwise Dj) (hp : ∀ y ∈ x, ∀ b, blkOf y = some b → blkOf p = some b) (hl : n + 1 ≤ 1073741824)
    (hk : ∀ b H', LX c H0 H' (.own (.cmp (.row (.slice (some ⟨b, 0, none⟩) (n + 1) s) ks (n + 1) (xs ++ x)) (V ++ x.map (cv H))) :: L') → Φ (.slice (some ⟨b, 0, none⟩) (n + 1) s) H') :
    oA (app s v (.slice (some ⟨H.length, 0, none⟩) 1 s) (H ++ [⟨x, .own⟩])) Φ := by
  subst hs
  obtain ⟨B, h⟩ := q
  obtain ⟨ht, hv⟩ := h.ok 0 _ rfl
  have ht : OT H v ks n xs := ht
  have hv : cvs H xs = V := hv
  have hpt : ∀ b, blkOf p = some b → ¬ (Comp.row v ks n xs).bs b := fun b hb hb2 => h.dj 1 0 _ _ (by omega) rfl rfl b hb hb2
  have hxv : ∀ y ∈ x, Dj v y := fun y hy b hb hb2 => hpt b (hp y hy b hb2) (.inl hb)
  have hxx : ∀ y ∈ x, ∀ z ∈ xs, Dj y z := fun y hy z hz b hb hb2 => hpt b (hp y hy b hb) (.inr ⟨z, hz, hb2⟩)
  refine oA_push ht.fown hx hxv hl fun b H' f a hc hb => hk b H' ?_
  have hlen := a.len
  have h1 := h.upd (H' := H') (x' := .own (.row (.slice none 0 0) [])) 0 rfl a.len (fun g hg hn => a.keep g hg (fun e => hn (.inl e))) OwnRow.nil (fun g hg => by simp [Ix.bs, It.bs, blkOf] at hg)
  have h2 : LB B c H0 H' L' := h1.tail.tail
  have hT : OT H' (.slice (some ⟨b, 0, none⟩) (n + 1) ks.length) ks (n + 1) (xs ++ x) := by
    refine OT.of f ?_ ?_
    · intro j y hy
      have hmem := List.mem_of_getElem? hy
      have hold : OwnC H y := by
        rcases List.mem_append.1 hmem with h1 | h1
        · obtain ⟨i, hi⟩ := List.mem_iff_getElem?.1 h1
          exact ht.own i y hi
        · exact ho y h1
      refine hold.same fun g hg => a.keep g (hold.lt g hg) fun e => ?_
      rcases List.mem_append.1 hmem with h1 | h1
      · obtain ⟨i, hi⟩ := List.mem_iff_getElem?.1 h1
        exact ht.out i y hi g e hg
      · exact hxv y h1 g e hg
    · intro i j y z hij hy hz
      rw [List.getElem?_append] at hy hz
      split at hy <;> split at hz
      · exact ht.dif i j y z hij hy hz
      · exact (hxx z (List.mem_of_getElem? hz) y (List.mem_of_getElem? hy)).symm
      · exact hxx y (List.mem_of_getElem? hy) z (List.mem_of_getElem? hz)
      · exact pw_get hdj _ _ y z (by omega) hy hz
  have hV : cvs H' (xs ++ x) = V ++ x.map (cv H) := by
    rw [← hv]
    unfold cvs
    rw [List.map_append, List.map_congr_left fun y hy => hc y (List.mem_append.2 (.inl hy)), List.map_congr_left fun y hy => hc y (List.mem_append.2 (.inr hy))]
  refine ⟨B, h2.ins ⟨hT, hV⟩ fun g hg => ?_⟩
  have cases3 : g = b ∨ (Comp.row v ks n xs).bs g ∨ blkOf p = some g := by
    rcases hg with hg | ⟨y, hy, hg⟩
    · left; simp [blkOf] at hg; exact hg.symm
    · rcases List.mem_append.1 hy with h3 | h3
      · exact .inr (.inl (.inr ⟨y, h3, hg⟩))
      · exact .inr (.inr (hp y h3 g hg))
  have hbn : H.length < b := hb
  rcases cases3 with rfl | h3 | h3
  · refine ⟨fun e => by have := (h.bl g e).1; omega, by have := h.len; omega, fun i y hy e => ?_, fun cb e e2 => ?_⟩
    · have := (h.ok (i + 2) y hy).lt g e; omega
    · have := (h.cur cb e).lt; omega
  · exact ⟨(h.fr 0 _ rfl g h3).1, (h.fr 0 _ rfl g h3).2, fun i y hy e => h.dj 0 (i + 2) _ y (by omega) rfl hy g h3 e, fun cb e e2 => h.nc cb e 0 _ rfl (by rw [e2]; exact h3)⟩
  · exact ⟨(h.fr 1 _ rfl g h3).1, (h.fr 1 _ rfl g h3).2, fun i y hy e => h.dj 1 (i + 2) _ y (by omega) rfl hy g h3 e, fun cb e e2 => h.nc cb e 1 _ rfl (by rw [e2]; exact h3)⟩
theorem LX.new {c : Option Nat} {H0 H : AH} {L : List Ix} {v : Value} {ks : List CK} {n : Nat} {xs : List Value} {V : List CV} (h : LX c H0 H L) (i : Nat) (hi : L[i]? = some (.own (.cmp (.row v ks n xs) V))) : New H0 H v ks n xs ∧ cvs H xs = V := by
  obtain ⟨B, h⟩ := h
  obtain ⟨h1, h2⟩ := h.ok i _ hi
  exact ⟨⟨h1, fun b hb => (h.fr i _ hi b hb).2⟩, h2⟩
theorem LX.nilT {c : Option Nat} {H0 H : AH} {L : List Ix} (h : LX c H0 H L) (ks : List CK) : LX c H0 H (.own (.cmp (.row (.slice none 0 0) ks 0 []) []) :: L) := by
  obtain ⟨B, h⟩ := h
  exact ⟨B, h.ins ⟨OT.of FOwn.nil (fun j y h => by simp at h) (fun i j x y _ h => by simp at h), rfl⟩ fun b hb => by rcases hb with hb | ⟨y, hy, _⟩ <;> simp [blkOf] at *⟩
theorem LX.boxT {c : Option Nat} {H0 H : AH} {L : List Ix} {b : Nat} {cs : List Value} (h : LX c H0 H L) (i : Nat) (hi : L[i]? = some (.own (.box b cs))) (ks : List CK) (s : Nat) (hs : ks.length = s) : LX c H0 H (L.set i (.own (.cmp (.row (.slice (some ⟨b, 0, none⟩) 0 s) ks 0 []) []))) := by
  subst hs
  obtain ⟨B, h⟩ := h
  have hb : H[b]? = some ⟨cs, .own⟩ := h.ok i _ hi
  exact ⟨B, h.upd i hi (Nat.le_refl _) (fun _ _ _ => rfl) ⟨OT.of (FOwn.at0 hb) (fun j y h => by simp at h) (fun i j x y _ h => by simp at h), rfl⟩ fun g hg => .inl (by rcases hg with hg | ⟨y, hy, _⟩ <;> simp [blkOf] at *; exact hg.symm)⟩
theorem st_cellsX {Φ : Value → AH → Prop} {H : AH} {cs : List Value} {n s : Nat} (k : Φ (.slice (some ⟨H.length, 0, none⟩) n s) (H ++ [⟨cs, .own⟩])) : oM (some (cs, some (n, s))) H Φ := k
theorem LX.sel2 {c : Option Nat} {H0 H : AH} {L : List Ix} (h : LX c H0 H L) (is : List Nat) (hn : is.Nodup) (hb : (is.all fun i => decide (i < L.length)) = true) : LX c H0 H (is.filterMap fun i => L[i]?) := by
  refine h.pick is _ ?_ hn
  clear hn
  induction is with
  | nil => rfl
  | cons i is ih =>
    simp only [List.all_cons, Bool.and_eq_true, decide_eq_true_eq] at hb
    rw [List.map_cons, ih hb.2, List.filterMap_cons, List.getElem?_eq_getElem hb.1]
    rfl

def rdR (l : List Int) : Option (List CV) := match l with
  | [] => none
  | x :: t => match rdAll nfI x.toNat t with
    | some (V, []) => if cdOk (insL V x.toNat) = true then some V else none
    | _ => none
theorem rdNums_bad {f : Int → Option Int} {k : Nat} {r : List Int} (h : r.length < 8) (hk : 0 < k) : rdNums f k r = none := by
  cases k with
  | zero => omega
  | succ k => rw [rdNums, if_pos h]
theorem getD_dropH {l : List Int} : ∀ {k : Nat}, (l.drop k).headD 0 = l.getD k 0 := by
  intro k
  rw [List.headD_eq_head?_getD, List.head?_drop, List.getD_eq_getElem?_getD]
theorem tails5 {r : List Int} : r.tail.tail.tail.tail.tail = r.drop 5 := by
  rw [← List.drop_one, ← List.drop_one, ← List.drop_one, ← List.drop_one, ← List.drop_one]
  simp only [List.drop_drop]
theorem bad5 {r : List Int} : (r.isEmpty || r.tail.isEmpty || r.tail.tail.isEmpty || r.tail.tail.tail.isEmpty || r.tail.tail.tail.tail.isEmpty) = decide (r.length < 5) := by
  match r with
  | [] => rfl
  | [_] => rfl
  | [_, _] => rfl
  | [_, _, _] => rfl
  | [_, _, _, _] => rfl
  | _ :: _ :: _ :: _ :: _ :: t => simp
theorem rdR_bad {l : List Int} {K : Nat} (hK : l.headD 0 = K) (h : l = [] ∨ rdAll nfI K l.tail = none) : rdR l = none := by
  cases l with
  | nil => rfl
  | cons x t =>
    rcases h with h | h
    · cases h
    · have hx : x = (K : Int) := hK
      subst hx
      simp only [rdR, Int.toNat_natCast]
      rw [show rdAll nfI K t = none from h]
theorem rdR_go {l : List Int} {K : Nat} {V : List CV} {r : List Int} (hK : l.headD 0 = K) (hn : l ≠ []) (h : rdAll nfI K l.tail = some (V, r)) : rdR l = if r = [] ∧ cdOk (insL V K) = true then some V else none := by
  cases l with
  | nil => exact absurd rfl hn
  | cons x t =>
    have hx : x = (K : Int) := hK
    subst hx
    simp only [rdR, Int.toNat_natCast]
    rw [show rdAll nfI K t = some (V, r) from h]
    cases r with
    | nil => simp
    | cons y s => simp
/-- The reader goes on from a list of bytes. -/
structure RdOn (H : AH) (sl : Value) (r : List Int) : Prop where
  row : ByRow H sl r
  by' : byOk r
  len : r.length ≤ 1048576
theorem RdOn.lt {H : AH} {sl : Value} {r : List Int} (h : RdOn H sl r) : ∀ b, blkOf sl = some b → b < H.length := by
  intro b hb
  rcases h.row with ⟨rfl, _⟩ | ⟨b', o, cs, rfl, h1, _⟩
  · simp [blkOf] at hb
  · simp [blkOf] at hb; subst hb
    exact rd_lt (by rw [h1]; rfl)
theorem RdOn.st {H0 H : AH} {L : List Ix} {sl : Value} {r : List Int} {rb : Nat} {bad : Bool} (h : RdOn H0 sl r) (q : LX none H0 H L) (i : Nat) (hi : L[i]? = some (.own (.box rb [sl, .bool bad]))) : RdSt H rb sl bad r :=
  ⟨q.bx i hi, h.row.ext q.ext, fun e => by have := h.lt rb e; have := q.bxlt i hi; omega⟩
theorem RdOn.next {H H1 H2 : AH} {sl sl' : Value} {r r' : List Int} {rb : Nat} {b : Bool} (h : RdOn H sl r) (a : Adv H1 H2 rb sl r sl' b r') (hs : ∀ x ∈ r', x ∈ r) (hl : r'.length ≤ r.length) : RdOn H sl' r' :=
  ⟨a.row H h.row, fun x hx => h.by' x (hs x hx), Nat.le_trans hl h.len⟩
theorem LX.adv {H0 H H' : AH} {L : List Ix} {rb : Nat} {sl sl' : Value} {bad bad' : Bool} {r r' : List Int} (q : LX none H0 H L) (i : Nat) (hi : L[i]? = some (.own (.box rb [sl, .bool bad]))) (a : Adv H H' rb sl r sl' bad' r') : LX none H0 H' (L.set i (.own (.box rb [sl', .bool bad']))) := by
  rw [a.eq]; exact q.set i hi _

set_option maxHeartbeats 4000000 in
theorem implRead_ok {H : AH} {v : Value} {l : List Int} (hv : ByRow H v l) (hy : byOk l) (hl : l.length ≤ 1048576) :
    CallsA Try.prog 14 #[v] H fun r H' => (∃ w m ys, r = .tuple #[w, .bool (rdR l).isSome] ∧ New H H' w kInstr m ys ∧ cvs H' ys = (rdR l).getD [] ∧ m ≤ 255) ∧ ∃ K, H' = H ++ K := by
  have q := (LX.nil (H := H))
  have r0 : RdOn H v l := ⟨hv, hy, hl⟩
  obtain ⟨va, vc, rfl, -⟩ := hv.op
  refine w14 ?_
  unfold k14
  simp -implicitDefEqProofs only [kz, kk0, kk1, kk2, kk3, ↓two_true, ↓two_false, mkv, aggAt, Nat.reduceLeDiff, Nat.reduceSub, Nat.reduceMul, implies_true, Nat.reduceEqDiff, reduceIte, Nat.reduceAdd, Nat.reduceBEq, reduceCtorEq, al66, ap29_29, ap64_64, bd66, bd71, bs29_1, bs64_1, fa63_0, fa63_1, fa63_2, fa66_0, fa66_2, fa66_3, fa71_0, fa71_1, ld3, ld4, ld22, ld64, ld66, ln22, st3, st64, st66]
  refine st_box q fun H1 q1 => ?_
  simp -implicitDefEqProofs only [kz, kk0, kk1, kk2, kk3, ↓two_true, ↓two_false, mkv, aggAt, Nat.reduceLeDiff, Nat.reduceSub, Nat.reduceMul, implies_true, Nat.reduceEqDiff, reduceIte, Nat.reduceAdd, Nat.reduceBEq, reduceCtorEq, al66, ap29_29, ap64_64, bd66, bd71, bs29_1, bs64_1, fa63_0, fa63_1, fa63_2, fa66_0, fa66_2, fa66_3, fa71_0, fa71_1, ld3, ld4, ld22, ld64, ld66, ln22, st3, st64, st66]
  refine (rdOne_ok (r0.st q1 0 rfl) hy hl).mono ?_
  rintro _ H2 ⟨sl2, rfl, a2⟩
  have q2 := q1.adv 0 rfl a2
  have r2 := r0.next a2 (fun x hx => List.mem_of_mem_tail hx) (by simp)
  simp only [List.set_cons_zero, Bool.false_or] at q2 a2
  simp -implicitDefEqProofs only [kz, kk0, kk1, kk2, kk3, ↓two_true, ↓two_false, mkv, aggAt, Nat.reduceLeDiff, Nat.reduceSub, Nat.reduceMul, implies_true, Nat.reduceEqDiff, reduceIte, Nat.reduceAdd, Nat.reduceBEq, reduceCtorEq, al66, ap29_29, ap64_64, bd66, bd71, bs29_1, bs64_1, fa63_0, fa63_1, fa63_2, fa66_0, fa66_2, fa66_3, fa71_0, fa71_1, ld3, ld4, ld22, ld64, ld66, ln22, st3, st64, st66, q2.rd 0 rfl]
  have hh := hy.head
  obtain ⟨K, hK⟩ : ∃ K : Nat, l.headD 0 = K := ⟨(l.headD 0).toNat, by omega⟩
  have hK255 : K ≤ 255 := by omega
  rw [hK]
  have q3 := q2.nilT kInstr
  refine rW_loop (σ := Nat) (fun k tm H' => ∃ a c m xs V sl bad r, tm 4 = .pointer (some ⟨H.length, 0, none⟩) ∧ tm 5 = .slice a m c ∧ tm 6 = .int .i64 k ∧ m + k ≤ K ∧ LX none H H' [.own (.cmp (.row (.slice a m c) kInstr m xs) V), .own (.box H.length [sl, .bool bad])] ∧ RdOn H sl r ∧
    (bad = false → rdAll nfI K l.tail = (rdAll nfI k r).map fun w => (V ++ w.1, w.2)) ∧ (bad = false → m + k = K ∧ l ≠ []) ∧ (bad = true → l = [] ∨ rdAll nfI K l.tail = none)) (fun k => k) K ?_ ?_
  · refine ⟨none, 0, 0, [], [], sl2, l.isEmpty, l.tail, ?_, ?_, ?_, by omega, q3, r2, fun _ => ?_, fun h => ⟨by omega, fun e => by rw [e] at h; cases h⟩, fun h => .inl ?_⟩
    · simp -implicitDefEqProofs [kk0, kk1, kk2, kk3, rW_block, ↓two_true, ↓two_false, rW_cond, rO_guard, oS_some, oM_some, mkv, aggAt, Nat.reduceLeDiff, Nat.reduceSub, Nat.reduceMul, cond_true, cond_false, Option.bind_some, List.length_append, List.length_cons, List.length_nil, List.append_assoc, List.cons_append, List.nil_append, List.set_cons_zero, List.set_cons_succ, List.size_toArray, List.all_cons, List.all_nil, List.drop_zero, List.drop_succ_cons, List.take_succ_cons, List.take_zero, List.mem_cons, Prod.mk.injEq, List.not_mem_nil, implies_true, List.getElem?_toArray, List.getElem?_cons_zero, List.getElem?_cons_succ, List.getElem?_nil, Option.getD_some, Option.getD_none, Nat.reduceEqDiff, reduceIte, Nat.reduceAdd, List.map_toArray, List.map_cons, List.map_nil, Bool.false_eq_true, Nat.reduceBEq, Option.map_some, Option.map_none, reduceCtorEq, al66, ap29_29, ap64_64, bd66, bd71, bs29_1, bs64_1, fa63_0, fa63_1, fa63_2, fa66_0, fa66_2, fa66_3, fa71_0, fa71_1, ld3, ld4, ld22, ld64, ld66, ln22, st3, st64, st66]
    · simp -implicitDefEqProofs [kk0, kk1, kk2, kk3, rW_block, ↓two_true, ↓two_false, rW_cond, rO_guard, oS_some, oM_some, mkv, aggAt, Nat.reduceLeDiff, Nat.reduceSub, Nat.reduceMul, cond_true, cond_false, Option.bind_some, List.length_append, List.length_cons, List.length_nil, List.append_assoc, List.cons_append, List.nil_append, List.set_cons_zero, List.set_cons_succ, List.size_toArray, List.all_cons, List.all_nil, List.drop_zero, List.drop_succ_cons, List.take_succ_cons, List.take_zero, List.mem_cons, Prod.mk.injEq, List.not_mem_nil, implies_true, List.getElem?_toArray, List.getElem?_cons_zero, List.getElem?_cons_succ, List.getElem?_nil, Option.getD_some, Option.getD_none, Nat.reduceEqDiff, reduceIte, Nat.reduceAdd, List.map_toArray, List.map_cons, List.map_nil, Bool.false_eq_true, Nat.reduceBEq, Option.map_some, Option.map_none, reduceCtorEq, al66, ap29_29, ap64_64, bd66, bd71, bs29_1, bs64_1, fa63_0, fa63_1, fa63_2, fa66_0, fa66_2, fa66_3, fa71_0, fa71_1, ld3, ld4, ld22, ld64, ld66, ln22, st3, st64, st66]
    · simp -implicitDefEqProofs [kk0, kk1, kk2, kk3, rW_block, ↓two_true, ↓two_false, rW_cond, rO_guard, oS_some, oM_some, mkv, aggAt, Nat.reduceLeDiff, Nat.reduceSub, Nat.reduceMul, cond_true, cond_false, Option.bind_some, List.length_append, List.length_cons, List.length_nil, List.append_assoc, List.cons_append, List.nil_append, List.set_cons_zero, List.set_cons_succ, List.size_toArray, List.all_cons, List.all_nil, List.drop_zero, List.drop_succ_cons, List.take_succ_cons, List.take_zero, List.mem_cons, Prod.mk.injEq, List.not_mem_nil, implies_true, List.getElem?_toArray, List.getElem?_cons_zero, List.getElem?_cons_succ, List.getElem?_nil, Option.getD_some, Option.getD_none, Nat.reduceEqDiff, reduceIte, Nat.reduceAdd, List.map_toArray, List.map_cons, List.map_nil, Bool.false_eq_true, Nat.reduceBEq, Option.map_some, Option.map_none, reduceCtorEq, al66, ap29_29, ap64_64, bd66, bd71, bs29_1, bs64_1, fa63_0, fa63_1, fa63_2, fa66_0, fa66_2, fa66_3, fa71_0, fa71_1, ld3, ld4, ld22, ld64, ld66, ln22, st3, st64, st66]
    · simp only [List.nil_append]
      cases rdAll nfI K l.tail <;> rfl
    · simpa using h
  · rintro k tm H3 ⟨a, c, m, xs, V, sl, bad, r, h4, h5, h6, hm, q, ro, g1, g0, g2⟩
    simp -implicitDefEqProofs only [kz, kk0, kk1, kk2, kk3, ↓two_true, ↓two_false, mkv, aggAt, Nat.reduceLeDiff, Nat.reduceSub, Nat.reduceMul, implies_true, Nat.reduceEqDiff, reduceIte, Nat.reduceAdd, Nat.reduceBEq, reduceCtorEq, al66, ap29_29, ap64_64, bd66, bd71, bs29_1, bs64_1, fa63_0, fa63_1, fa63_2, fa66_0, fa66_2, fa66_3, fa71_0, fa71_1, ld3, ld4, ld22, ld64, ld66, ln22, st3, st64, st66, h4, h5, h6, q.rd 1 rfl]
    refine two_intro (fun u1 => ?_) (fun u1 => ?_)
    · have hk1 : 0 < k := by have h5 := of_decide_eq_true u1; omega
      refine two_intro (fun u2 => ?_) (fun u2 => ?_)
      · obtain rfl : bad = false := by simpa using u2
        obtain ⟨g3, g4⟩ := g0 rfl
        have g1 := g1 rfl
        clear g0 g2
        obtain ⟨k, rfl⟩ : ∃ k', k = k' + 1 := ⟨k - 1, by omega⟩
        have wk : IntKind.i64.wrap (((k + 1 : Nat) : Int) - 1) = (k : Int) := by rw [IntWalk.i64_in _ (by omega)]; omega
        refine (rdOne_ok (ro.st q 1 rfl) ro.by' ro.len).mono ?_
        rintro _ H4 ⟨sl4, rfl, a4⟩
        have q4 := q.adv 1 rfl a4
        have r4 := ro.next a4 (fun x hx => List.mem_of_mem_tail hx) (by simp)
        simp only [List.set_cons_zero, List.set_cons_succ] at q4
        simp -implicitDefEqProofs only [kz, kk0, kk1, kk2, kk3, ↓two_true, ↓two_false, mkv, aggAt, Nat.reduceLeDiff, Nat.reduceSub, Nat.reduceMul, implies_true, Nat.reduceEqDiff, reduceIte, Nat.reduceAdd, Nat.reduceBEq, reduceCtorEq, al66, ap29_29, ap64_64, bd66, bd71, bs29_1, bs64_1, fa63_0, fa63_1, fa63_2, fa66_0, fa66_2, fa66_3, fa71_0, fa71_1, ld3, ld4, ld22, ld64, ld66, ln22, st3, st64, st66, h4, h5, h6]
        refine (rdOne_ok (r4.st q4 1 rfl) r4.by' r4.len).mono ?_
        rintro _ H5 ⟨sl5, rfl, a5⟩
        have q5 := q4.adv 1 rfl a5
        have r5 := r4.next a5 (fun x hx => List.mem_of_mem_tail hx) (by simp)
        simp only [List.set_cons_zero, List.set_cons_succ] at q5
        simp -implicitDefEqProofs only [kz, kk0, kk1, kk2, kk3, ↓two_true, ↓two_false, mkv, aggAt, Nat.reduceLeDiff, Nat.reduceSub, Nat.reduceMul, implies_true, Nat.reduceEqDiff, reduceIte, Nat.reduceAdd, Nat.reduceBEq, reduceCtorEq, al66, ap29_29, ap64_64, bd66, bd71, bs29_1, bs64_1, fa63_0, fa63_1, fa63_2, fa66_0, fa66_2, fa66_3, fa71_0, fa71_1, ld3, ld4, ld22, ld64, ld66, ln22, st3, st64, st66, h4, h5, h6]
        refine st_box q5 fun H6 q6 => ?_
        simp -implicitDefEqProofs only [kz, kk0, kk1, kk2, kk3, ↓two_true, ↓two_false, mkv, aggAt, Nat.reduceLeDiff, Nat.reduceSub, Nat.reduceMul, implies_true, Nat.reduceEqDiff, reduceIte, Nat.reduceAdd, Nat.reduceBEq, reduceCtorEq, al66, ap29_29, ap64_64, bd66, bd71, bs29_1, bs64_1, fa63_0, fa63_1, fa63_2, fa66_0, fa66_2, fa66_3, fa71_0, fa71_1, ld3, ld4, ld22, ld64, ld66, ln22, st3, st64, st66, h4, h5, h6, q6.rd 0 rfl]
        refine st_set q6 0 rfl fun H7 q7 => ?_
        simp only [List.set_cons_zero, List.set_cons_succ] at q7
        simp -implicitDefEqProofs only [kz, kk0, kk1, kk2, kk3, ↓two_true, ↓two_false, mkv, aggAt, Nat.reduceLeDiff, Nat.reduceSub, Nat.reduceMul, implies_true, Nat.reduceEqDiff, reduceIte, Nat.reduceAdd, Nat.reduceBEq, reduceCtorEq, al66, ap29_29, ap64_64, bd66, bd71, bs29_1, bs64_1, fa63_0, fa63_1, fa63_2, fa66_0, fa66_2, fa66_3, fa71_0, fa71_1, ld3, ld4, ld22, ld64, ld66, ln22, st3, st64, st66, h4, h5, h6]
        refine (rdOne_ok (r5.st q7 2 rfl) r5.by' r5.len).mono ?_
        rintro _ H8 ⟨sl8, rfl, a8⟩
        have q8 := q7.adv 2 rfl a8
        have r8 := r5.next a8 (fun x hx => List.mem_of_mem_tail hx) (by simp)
        simp only [List.set_cons_zero, List.set_cons_succ] at q8
        simp -implicitDefEqProofs only [kz, kk0, kk1, kk2, kk3, ↓two_true, ↓two_false, mkv, aggAt, Nat.reduceLeDiff, Nat.reduceSub, Nat.reduceMul, implies_true, Nat.reduceEqDiff, reduceIte, Nat.reduceAdd, Nat.reduceBEq, reduceCtorEq, al66, ap29_29, ap64_64, bd66, bd71, bs29_1, bs64_1, fa63_0, fa63_1, fa63_2, fa66_0, fa66_2, fa66_3, fa71_0, fa71_1, ld3, ld4, ld22, ld64, ld66, ln22, st3, st64, st66, h4, h5, h6, q8.rd 0 rfl]
        refine st_set q8 0 rfl fun H9 q9 => ?_
        simp only [List.set_cons_zero, List.set_cons_succ] at q9
        simp -implicitDefEqProofs only [kz, kk0, kk1, kk2, kk3, ↓two_true, ↓two_false, mkv, aggAt, Nat.reduceLeDiff, Nat.reduceSub, Nat.reduceMul, implies_true, Nat.reduceEqDiff, reduceIte, Nat.reduceAdd, Nat.reduceBEq, reduceCtorEq, al66, ap29_29, ap64_64, bd66, bd71, bs29_1, bs64_1, fa63_0, fa63_1, fa63_2, fa66_0, fa66_2, fa66_3, fa71_0, fa71_1, ld3, ld4, ld22, ld64, ld66, ln22, st3, st64, st66, h4, h5, h6]
        refine (rdOne_ok (r8.st q9 2 rfl) r8.by' r8.len).mono ?_
        rintro _ H10 ⟨sl10, rfl, a10⟩
        have q10 := q9.adv 2 rfl a10
        have r10 := r8.next a10 (fun x hx => List.mem_of_mem_tail hx) (by simp)
        simp only [List.set_cons_zero, List.set_cons_succ] at q10
        simp -implicitDefEqProofs only [kz, kk0, kk1, kk2, kk3, ↓two_true, ↓two_false, mkv, aggAt, Nat.reduceLeDiff, Nat.reduceSub, Nat.reduceMul, implies_true, Nat.reduceEqDiff, reduceIte, Nat.reduceAdd, Nat.reduceBEq, reduceCtorEq, al66, ap29_29, ap64_64, bd66, bd71, bs29_1, bs64_1, fa63_0, fa63_1, fa63_2, fa66_0, fa66_2, fa66_3, fa71_0, fa71_1, ld3, ld4, ld22, ld64, ld66, ln22, st3, st64, st66, h4, h5, h6, q10.rd 0 rfl]
        refine st_set q10 0 rfl fun H11 q11 => ?_
        simp only [List.set_cons_zero, List.set_cons_succ] at q11
        simp -implicitDefEqProofs only [kz, kk0, kk1, kk2, kk3, ↓two_true, ↓two_false, mkv, aggAt, Nat.reduceLeDiff, Nat.reduceSub, Nat.reduceMul, implies_true, Nat.reduceEqDiff, reduceIte, Nat.reduceAdd, Nat.reduceBEq, reduceCtorEq, al66, ap29_29, ap64_64, bd66, bd71, bs29_1, bs64_1, fa63_0, fa63_1, fa63_2, fa66_0, fa66_2, fa66_3, fa71_0, fa71_1, ld3, ld4, ld22, ld64, ld66, ln22, st3, st64, st66, h4, h5, h6]
        refine (rdOne_ok (r10.st q11 2 rfl) r10.by' r10.len).mono ?_
        rintro _ H12 ⟨sl12, rfl, a12⟩
        have q12 := q11.adv 2 rfl a12
        have r12 := r10.next a12 (fun x hx => List.mem_of_mem_tail hx) (by simp)
        simp only [List.set_cons_zero, List.set_cons_succ, Bool.false_or, bad5] at q12
        rw [tails5] at r12
        simp -implicitDefEqProofs only [kz, kk0, kk1, kk2, kk3, ↓two_true, ↓two_false, mkv, aggAt, Nat.reduceLeDiff, Nat.reduceSub, Nat.reduceMul, implies_true, Nat.reduceEqDiff, reduceIte, Nat.reduceAdd, Nat.reduceBEq, reduceCtorEq, al66, ap29_29, ap64_64, bd66, bd71, bs29_1, bs64_1, fa63_0, fa63_1, fa63_2, fa66_0, fa66_2, fa66_3, fa71_0, fa71_1, ld3, ld4, ld22, ld64, ld66, ln22, st3, st64, st66, h4, h5, h6, q12.rd 0 rfl]
        refine st_set q12 0 rfl fun H13 q13 => ?_
        simp only [List.set_cons_zero, List.set_cons_succ] at q13
        simp -implicitDefEqProofs only [kz, kk0, kk1, kk2, kk3, ↓two_true, ↓two_false, mkv, aggAt, Nat.reduceLeDiff, Nat.reduceSub, Nat.reduceMul, implies_true, Nat.reduceEqDiff, reduceIte, Nat.reduceAdd, Nat.reduceBEq, reduceCtorEq, al66, ap29_29, ap64_64, bd66, bd71, bs29_1, bs64_1, fa63_0, fa63_1, fa63_2, fa66_0, fa66_2, fa66_3, fa71_0, fa71_1, ld3, ld4, ld22, ld64, ld66, ln22, st3, st64, st66, h4, h5, h6, q13.rd 0 rfl]
        clear a4 a5 a8 a10 a12 q4 q5 q6 q7 q8 q9 q10 q11 q12 r4 r5 r8 r10
        refine two_intro (fun u3 => ?_) (fun u3 => ?_)
        · have hop : r.headD 0 = 1 := by simpa using u3
          refine (rdTwo_ok (r12.st q13 2 rfl) r12.by' r12.len).mono ?_
          rintro _ H14 ⟨sl14, rfl, a14⟩
          have q14 := q13.adv 2 rfl a14
          have r14 := r12.next a14 (fun x hx => List.mem_of_mem_drop hx) (by simp; omega)
          simp only [List.set_cons_zero, List.set_cons_succ, List.drop_drop, List.length_drop] at q14 r14
          obtain ⟨n1, n2⟩ := loF_nn (k := 2) (ro.by'.drop 5)
          obtain ⟨k2, hk2⟩ : ∃ k2 : Nat, loF 2 (r.drop 5) = k2 := ⟨(loF 2 (r.drop 5)).toNat, by omega⟩
          rw [hk2]
          have hk65 : k2 < 65536 := by have : (256 : Int) ^ 2 = 65536 := by decide
                                       omega
          obtain ⟨b7, hb7⟩ : ∃ b7 : Bool, (decide (r.length < 5) || decide (r.length - 5 < 2)) = b7 := ⟨_, rfl⟩
          rw [hb7] at q14
          have q15 := LX.nil0 q14
          have fin : ∀ (nums r' : List Int) (bad : Bool), (b7 = true → bad = true) → (b7 = false → bad = false → rdNums nfI k2 (r.drop 7) = some (nums, r')) → (b7 = false → bad = true → rdNums nfI k2 (r.drop 7) = none) →
              (bad = false → rdIns nfI r = some ([.i 1, .i (r.tail.headD 0), .i (r.tail.tail.headD 0), .i (r.tail.tail.tail.headD 0), .i (r.tail.tail.tail.tail.headD 0), .r nums], r')) ∧ (bad = true → rdIns nfI r = none) := by
            intro nums r' bad f1 f2 f3
            have hk2' : (loF 2 (r.drop 5)).toNat = k2 := by omega
            by_cases hl7 : r.length < 7
            · have hb : b7 = true := by rw [← hb7]; simp; omega
              have : rdIns nfI r = none := by
                unfold rdIns
                by_cases h5 : r.length < 5
                · rw [if_pos h5]
                · rw [if_neg h5, if_pos hop, if_pos hl7]
              exact ⟨fun e => (by rw [f1 hb] at e; exact absurd e (by decide)), fun _ => this⟩
            · have hb : b7 = false := by rw [← hb7]; simp; omega
              have e : rdIns nfI r = (rdNums nfI k2 (r.drop 7)).map fun z => ([.i 1, .i (r.tail.headD 0), .i (r.tail.tail.headD 0), .i (r.tail.tail.tail.headD 0), .i (r.tail.tail.tail.tail.headD 0), .r z.1], z.2) := by
                unfold rdIns
                rw [if_neg (by omega), if_pos hop, if_neg hl7, hk2', hop]
              exact ⟨fun h => by rw [e, f2 hb h]; rfl, fun h => by rw [e, f3 hb h]; rfl⟩
          simp -implicitDefEqProofs only [kz, kk0, kk1, kk2, kk3, ↓two_true, ↓two_false, mkv, aggAt, Nat.reduceLeDiff, Nat.reduceSub, Nat.reduceMul, implies_true, Nat.reduceEqDiff, reduceIte, Nat.reduceAdd, Nat.reduceBEq, reduceCtorEq, al66, ap29_29, ap64_64, bd66, bd71, bs29_1, bs64_1, fa63_0, fa63_1, fa63_2, fa66_0, fa66_2, fa66_3, fa71_0, fa71_1, ld3, ld4, ld22, ld64, ld66, ln22, st3, st64, st66, h4, h5, h6, hop] at q15 ⊢
          refine rW_loop (σ := Nat) (fun j tm H' => ∃ a' c' nums sl bad r', tm 4 = .pointer (some ⟨H.length, 0, none⟩) ∧ tm 5 = .slice a m c ∧ tm 6 = .int .i64 ((k + 1 : Nat) : Int) ∧ tm 7 = .pointer (some ⟨H5.length, 0, none⟩) ∧ tm 8 = .int .i64 j ∧
            LX none H H' [.own (.row (.slice a' nums.length c') nums), .own (.box H5.length [.int .i64 1, .int .i64 (r.tail.headD 0), .int .i64 (r.tail.tail.headD 0), .int .i64 (r.tail.tail.tail.headD 0), .int .i64 (r.tail.tail.tail.tail.headD 0), .slice a' nums.length c']), .own (.cmp (.row (.slice a m c) kInstr m xs) V), .own (.box H.length [sl, .bool bad])] ∧ RdOn H sl r' ∧ nums.length + j ≤ k2 ∧
            (b7 = true → bad = true) ∧ (b7 = false → bad = false → rdNums nfI k2 (r.drop 7) = (rdNums nfI j r').map fun z => (nums ++ z.1, z.2)) ∧ (b7 = false → bad = false → nums.length + j = k2) ∧ (b7 = false → bad = true → rdNums nfI k2 (r.drop 7) = none)) (fun j => j) k2 ?_ ?_
          · refine ⟨none, 0, [], sl14, b7, r.drop 7, ?_, ?_, ?_, ?_, ?_, q15, r14, by simp, fun h => h, fun _ _ => ?_, fun _ _ => by simp, fun h1 h2 => by rw [h1] at h2; cases h2⟩
            · first | rfl | exact h4
            · first | rfl | exact h5
            · first | rfl | exact h6
            · rfl
            · rfl
            · simp only [List.nil_append]
              cases rdNums nfI k2 (r.drop 7) <;> rfl
          · rintro j tm2 H16 ⟨a', c', nums, sl, bad, r', m4, m5, m6, m7, m8, q, ro2, hnl, e1, e2, e3, e4⟩
            simp -implicitDefEqProofs only [kz, kk0, kk1, kk2, kk3, ↓two_true, ↓two_false, mkv, aggAt, Nat.reduceLeDiff, Nat.reduceSub, Nat.reduceMul, implies_true, Nat.reduceEqDiff, reduceIte, Nat.reduceAdd, Nat.reduceBEq, reduceCtorEq, al66, ap29_29, ap64_64, bd66, bd71, bs29_1, bs64_1, fa63_0, fa63_1, fa63_2, fa66_0, fa66_2, fa66_3, fa71_0, fa71_1, ld3, ld4, ld22, ld64, ld66, ln22, st3, st64, st66, m4, m5, m6, m7, m8, q.rd 1 rfl, q.rd 3 rfl]
            refine two_intro (fun v1 => ?_) (fun v1 => ?_)
            · have hj1 : 0 < j := by have h5 := of_decide_eq_true v1; omega
              refine two_intro (fun v2 => ?_) (fun v2 => ?_)
              · obtain rfl : bad = false := by simpa using v2
                try simp -implicitDefEqProofs only [kz, kk0, kk1, kk2, kk3, ↓two_true, ↓two_false, mkv, aggAt, Nat.reduceLeDiff, Nat.reduceSub, Nat.reduceMul, implies_true, Nat.reduceEqDiff, reduceIte, Nat.reduceAdd, Nat.reduceBEq, reduceCtorEq, al66, ap29_29, ap64_64, bd66, bd71, bs29_1, bs64_1, fa63_0, fa63_1, fa63_2, fa66_0, fa66_2, fa66_3, fa71_0, fa71_1, ld3, ld4, ld22, ld64, ld66, ln22, st3, st64, st66, m4, m5, m6, m7, m8, q.rd 1 rfl, q.rd 3 rfl]
                refine (rdNum_ok (ro2.st q 3 rfl) ro2.by' ro2.len).mono ?_
                rintro _ H17 ⟨sl17, rfl, a17⟩
                have q17 := q.adv 3 rfl a17
                have r17 := ro2.next a17 (fun x hx => List.mem_of_mem_drop hx) (by simp)
                simp only [List.set_cons_zero, List.set_cons_succ, Bool.false_or] at q17
                simp -implicitDefEqProofs only [kz, kk0, kk1, kk2, kk3, ↓two_true, ↓two_false, mkv, aggAt, Nat.reduceLeDiff, Nat.reduceSub, Nat.reduceMul, implies_true, Nat.reduceEqDiff, reduceIte, Nat.reduceAdd, Nat.reduceBEq, reduceCtorEq, al66, ap29_29, ap64_64, bd66, bd71, bs29_1, bs64_1, fa63_0, fa63_1, fa63_2, fa66_0, fa66_2, fa66_3, fa71_0, fa71_1, ld3, ld4, ld22, ld64, ld66, ln22, st3, st64, st66, m4, m5, m6, m7, m8, q17.rd 1 rfl, q17.rd 3 rfl, q.rd 1 rfl, q.rd 3 rfl]
                refine st_lit [(nfI (loF 8 r')).getD 0] rfl rfl q17 fun H18 q18 => ?_
                simp -implicitDefEqProofs only [kz, kk0, kk1, kk2, kk3, ↓two_true, ↓two_false, mkv, aggAt, Nat.reduceLeDiff, Nat.reduceSub, Nat.reduceMul, implies_true, Nat.reduceEqDiff, reduceIte, Nat.reduceAdd, Nat.reduceBEq, reduceCtorEq, al66, ap29_29, ap64_64, bd66, bd71, bs29_1, bs64_1, fa63_0, fa63_1, fa63_2, fa66_0, fa66_2, fa66_3, fa71_0, fa71_1, ld3, ld4, ld22, ld64, ld66, ln22, st3, st64, st66, m4, m5, m6, m7, m8, q18.rd 2 rfl, q18.rd 4 rfl, q.rd 1 rfl, q.rd 3 rfl]
                refine st_app q18 1 rfl (q18.int 0 rfl) (by simp; omega) fun a2 c2 H19 q19 => ?_
                simp only [List.set_cons_zero, List.set_cons_succ, List.length_cons, List.length_nil, Nat.zero_add] at q19 ⊢
                simp -implicitDefEqProofs only [kz, kk0, kk1, kk2, kk3, ↓two_true, ↓two_false, mkv, aggAt, Nat.reduceLeDiff, Nat.reduceSub, Nat.reduceMul, implies_true, Nat.reduceEqDiff, reduceIte, Nat.reduceAdd, Nat.reduceBEq, reduceCtorEq, al66, ap29_29, ap64_64, bd66, bd71, bs29_1, bs64_1, fa63_0, fa63_1, fa63_2, fa66_0, fa66_2, fa66_3, fa71_0, fa71_1, ld3, ld4, ld22, ld64, ld66, ln22, st3, st64, st66, m4, m5, m6, m7, m8, q19.rd 2 rfl, q19.rd 4 rfl, q.rd 1 rfl, q.rd 3 rfl]
                refine st_set q19 2 rfl fun H20 q20 => ?_
                simp only [List.set_cons_zero, List.set_cons_succ] at q20
                obtain ⟨j, rfl⟩ : ∃ j', j = j' + 1 := ⟨j - 1, by omega⟩
                have wj : IntKind.i64.wrap (((j + 1 : Nat) : Int) - 1) = (j : Int) := by rw [IntWalk.i64_in _ (by omega)]; omega
                simp -implicitDefEqProofs only [kz, kk0, kk1, kk2, kk3, ↓two_true, ↓two_false, mkv, aggAt, Nat.reduceLeDiff, Nat.reduceSub, Nat.reduceMul, implies_true, Nat.reduceEqDiff, reduceIte, Nat.reduceAdd, Nat.reduceBEq, reduceCtorEq, al66, ap29_29, ap64_64, bd66, bd71, bs29_1, bs64_1, fa63_0, fa63_1, fa63_2, fa66_0, fa66_2, fa66_3, fa71_0, fa71_1, ld3, ld4, ld22, ld64, ld66, ln22, st3, st64, st66, m4, m5, m6, m7, m8, wj]
                have q21 := q20.sel2 [1, 2, 3, 4] (by decide) rfl
                simp only [List.filterMap_cons, List.filterMap_nil, List.getElem?_cons_zero, List.getElem?_cons_succ] at q21
                have hlen1 : (nums ++ [(nfI (loF 8 r')).getD 0]).length = nums.length + 1 := by simp
                refine ⟨j, by omega, a2, c2, nums ++ [(nfI (loF 8 r')).getD 0], sl17, _, r'.drop 8, rfl, by rw [hlen1]; exact q21, r17, by rw [hlen1]; omega, fun h => absurd (e1 h) (by decide), fun h1 h2 => ?_, fun h1 _ => by rw [hlen1]; have := e3 h1 rfl; omega, fun h1 h2 => ?_⟩
                · simp only [Bool.or_eq_false_iff, decide_eq_false_iff_not] at h2
                  rw [e2 h1 rfl, rdNums, if_neg h2.1]
                  cases hn : nfI (loF 8 r') with
                  | none => rw [hn] at h2; simp at h2
                  | some y =>
                    simp only [Option.getD_some]
                    cases rdNums nfI j (r'.drop 8) <;> simp
                · rw [e2 h1 rfl]
                  simp only [Bool.or_eq_true, decide_eq_true_eq] at h2
                  rcases h2 with h2 | h2
                  · rw [rdNums_bad h2 (by omega)]; rfl
                  · rw [rdNums]
                    split
                    · rfl
                    · cases hn : nfI (loF 8 r') with
                      | none => rfl
                      | some y => rw [hn] at h2; cases h2
              · obtain rfl : bad = true := by simpa using v2
                have fn := fin nums r' true e1 (fun _ h => by cases h) e4
                refine st_cellsX ?_
                simp -implicitDefEqProofs only [kz, kk0, kk1, kk2, kk3, ↓two_true, ↓two_false, mkv, aggAt, Nat.reduceLeDiff, Nat.reduceSub, Nat.reduceMul, implies_true, Nat.reduceEqDiff, reduceIte, Nat.reduceAdd, Nat.reduceBEq, reduceCtorEq, al66, ap29_29, ap64_64, bd66, bd71, bs29_1, bs64_1, fa63_0, fa63_1, fa63_2, fa66_0, fa66_2, fa66_3, fa71_0, fa71_1, ld3, ld4, ld22, ld64, ld66, ln22, st3, st64, st66, m4, m5, m6, m7, m8]
                have q22 := q.sel2 [2, 0, 1, 3] (by decide) rfl
                simp only [List.filterMap_cons, List.filterMap_nil, List.getElem?_cons_zero, List.getElem?_cons_succ] at q22
                have hrk := (q22.own 1 rfl).kok (by omega)
                refine st_insC (s := 6) rfl q22 ⟨_, _, rfl, ⟨_, rfl⟩, _, _, rfl, ⟨_, rfl⟩, _, _, rfl, ⟨_, rfl⟩, _, _, rfl, ⟨_, rfl⟩, _, _, rfl, ⟨_, rfl⟩, _, _, rfl, hrk.1, rfl⟩ ?_ ?_ ?_ (by omega) fun b H25 q25 => ?_
                · simp only [List.forall_mem_cons, List.not_mem_nil, false_implies, implies_true, and_true]
                  exact ⟨.inl ⟨_, rfl⟩, .inl ⟨_, rfl⟩, .inl ⟨_, rfl⟩, .inl ⟨_, rfl⟩, .inl ⟨_, rfl⟩, hrk.2.1⟩
                · simp [Dj, blkOf]
                · simp only [List.forall_mem_cons, List.not_mem_nil, false_implies, implies_true, and_true]
                  exact ⟨fun b hb => by simp [blkOf] at hb, fun b hb => by simp [blkOf] at hb, fun b hb => by simp [blkOf] at hb, fun b hb => by simp [blkOf] at hb, fun b hb => by simp [blkOf] at hb, fun b hb => hb⟩
                · simp -implicitDefEqProofs only [kz, kk0, kk1, kk2, kk3, ↓two_true, ↓two_false, mkv, aggAt, Nat.reduceLeDiff, Nat.reduceSub, Nat.reduceMul, implies_true, Nat.reduceEqDiff, reduceIte, Nat.reduceAdd, Nat.reduceBEq, reduceCtorEq, al66, ap29_29, ap64_64, bd66, bd71, bs29_1, bs64_1, fa63_0, fa63_1, fa63_2, fa66_0, fa66_2, fa66_3, fa71_0, fa71_1, ld3, ld4, ld22, ld64, ld66, ln22, st3, st64, st66, m4, m5, m6, m7, m8, wk]
                  simp only [List.map_cons, List.map_nil, cv_int, hrk.2.2] at q25
                  have q26 := q25.sel2 [0, 2] (by decide) rfl
                  simp only [List.filterMap_cons, List.filterMap_nil, List.getElem?_cons_zero, List.getElem?_cons_succ] at q26
                  refine ⟨k, by omega, _, _, m + 1, _, _, sl, _, r', rfl, rfl, by omega, q26, ro2, fun hb => ?_, fun _ => ⟨by omega, g4⟩, fun hb => .inr ?_⟩
                  · rw [g1]
                    exact rdAll_ok (fn.1 hb)
                  · rw [g1, rdAll_bad (fn.2 hb)]; rfl
            · have hj0 : j = 0 := by have h5 := of_decide_eq_false v1; omega
              subst hj0
              have fn := fin nums r' bad e1 (fun h1 h2 => by rw [e2 h1 h2, rdNums]; simp) e4
              refine st_cellsX ?_
              simp -implicitDefEqProofs only [kz, kk0, kk1, kk2, kk3, ↓two_true, ↓two_false, mkv, aggAt, Nat.reduceLeDiff, Nat.reduceSub, Nat.reduceMul, implies_true, Nat.reduceEqDiff, reduceIte, Nat.reduceAdd, Nat.reduceBEq, reduceCtorEq, al66, ap29_29, ap64_64, bd66, bd71, bs29_1, bs64_1, fa63_0, fa63_1, fa63_2, fa66_0, fa66_2, fa66_3, fa71_0, fa71_1, ld3, ld4, ld22, ld64, ld66, ln22, st3, st64, st66, m4, m5, m6, m7, m8]
              have q22 := q.sel2 [2, 0, 1, 3] (by decide) rfl
              simp only [List.filterMap_cons, List.filterMap_nil, List.getElem?_cons_zero, List.getElem?_cons_succ] at q22
              have hrk := (q22.own 1 rfl).kok (by omega)
              refine st_insC (s := 6) rfl q22 ⟨_, _, rfl, ⟨_, rfl⟩, _, _, rfl, ⟨_, rfl⟩, _, _, rfl, ⟨_, rfl⟩, _, _, rfl, ⟨_, rfl⟩, _, _, rfl, ⟨_, rfl⟩, _, _, rfl, hrk.1, rfl⟩ ?_ ?_ ?_ (by omega) fun b H25 q25 => ?_
              · simp only [List.forall_mem_cons, List.not_mem_nil, false_implies, implies_true, and_true]
                exact ⟨.inl ⟨_, rfl⟩, .inl ⟨_, rfl⟩, .inl ⟨_, rfl⟩, .inl ⟨_, rfl⟩, .inl ⟨_, rfl⟩, hrk.2.1⟩
              · simp [Dj, blkOf]
              · simp only [List.forall_mem_cons, List.not_mem_nil, false_implies, implies_true, and_true]
                exact ⟨fun b hb => by simp [blkOf] at hb, fun b hb => by simp [blkOf] at hb, fun b hb => by simp [blkOf] at hb, fun b hb => by simp [blkOf] at hb, fun b hb => by simp [blkOf] at hb, fun b hb => hb⟩
              · simp -implicitDefEqProofs only [kz, kk0, kk1, kk2, kk3, ↓two_true, ↓two_false, mkv, aggAt, Nat.reduceLeDiff, Nat.reduceSub, Nat.reduceMul, implies_true, Nat.reduceEqDiff, reduceIte, Nat.reduceAdd, Nat.reduceBEq, reduceCtorEq, al66, ap29_29, ap64_64, bd66, bd71, bs29_1, bs64_1, fa63_0, fa63_1, fa63_2, fa66_0, fa66_2, fa66_3, fa71_0, fa71_1, ld3, ld4, ld22, ld64, ld66, ln22, st3, st64, st66, m4, m5, m6, m7, m8, wk]
                simp only [List.map_cons, List.map_nil, cv_int, hrk.2.2] at q25
                have q26 := q25.sel2 [0, 2] (by decide) rfl
                simp only [List.filterMap_cons, List.filterMap_nil, List.getElem?_cons_zero, List.getElem?_cons_succ] at q26
                refine ⟨k, by omega, _, _, m + 1, _, _, sl, _, r', rfl, rfl, by omega, q26, ro2, fun hb => ?_, fun _ => ⟨by omega, g4⟩, fun hb => .inr ?_⟩
                · rw [g1]
                  exact rdAll_ok (fn.1 hb)
                · rw [g1, rdAll_bad (fn.2 hb)]; rfl
        · have hop : ¬ r.headD 0 = 1 := by simpa using u3
          try simp -implicitDefEqProofs only [kz, kk0, kk1, kk2, kk3, ↓two_true, ↓two_false, mkv, aggAt, Nat.reduceLeDiff, Nat.reduceSub, Nat.reduceMul, implies_true, Nat.reduceEqDiff, reduceIte, Nat.reduceAdd, Nat.reduceBEq, reduceCtorEq, al66, ap29_29, ap64_64, bd66, bd71, bs29_1, bs64_1, fa63_0, fa63_1, fa63_2, fa66_0, fa66_2, fa66_3, fa71_0, fa71_1, ld3, ld4, ld22, ld64, ld66, ln22, st3, st64, st66, h4, h5, h6, q13.rd 0 rfl]
          refine st_cellsX ?_
          simp -implicitDefEqProofs only [kz, kk0, kk1, kk2, kk3, ↓two_true, ↓two_false, mkv, aggAt, Nat.reduceLeDiff, Nat.reduceSub, Nat.reduceMul, implies_true, Nat.reduceEqDiff, reduceIte, Nat.reduceAdd, Nat.reduceBEq, reduceCtorEq, al66, ap29_29, ap64_64, bd66, bd71, bs29_1, bs64_1, fa63_0, fa63_1, fa63_2, fa66_0, fa66_2, fa66_3, fa71_0, fa71_1, ld3, ld4, ld22, ld64, ld66, ln22, st3, st64, st66, h4, h5, h6]
          have q14 := (LX.nil0 q13).sel2 [2, 0, 1, 3] (by decide) rfl
          simp only [List.filterMap_cons, List.filterMap_nil, List.getElem?_cons_zero, List.getElem?_cons_succ] at q14
          refine st_insC (s := 6) rfl q14 ⟨_, _, rfl, ⟨_, rfl⟩, _, _, rfl, ⟨_, rfl⟩, _, _, rfl, ⟨_, rfl⟩, _, _, rfl, ⟨_, rfl⟩, _, _, rfl, ⟨_, rfl⟩, _, _, rfl, (OwnRow.nil.kok (by simp)).1, rfl⟩ ?_ ?_ ?_ (by omega) fun b H15 q15 => ?_
          · simp only [List.forall_mem_cons, List.not_mem_nil, false_implies, implies_true, and_true]
            exact ⟨.inl ⟨_, rfl⟩, .inl ⟨_, rfl⟩, .inl ⟨_, rfl⟩, .inl ⟨_, rfl⟩, .inl ⟨_, rfl⟩, (OwnRow.nil.kok (by simp)).2.1⟩
          · simp [Dj, blkOf]
          · simp only [List.forall_mem_cons, List.not_mem_nil, false_implies, implies_true, and_true]
            exact ⟨fun b hb => by simp [blkOf] at hb, fun b hb => by simp [blkOf] at hb, fun b hb => by simp [blkOf] at hb, fun b hb => by simp [blkOf] at hb, fun b hb => by simp [blkOf] at hb, fun b hb => hb⟩
          · simp -implicitDefEqProofs only [kz, kk0, kk1, kk2, kk3, ↓two_true, ↓two_false, mkv, aggAt, Nat.reduceLeDiff, Nat.reduceSub, Nat.reduceMul, implies_true, Nat.reduceEqDiff, reduceIte, Nat.reduceAdd, Nat.reduceBEq, reduceCtorEq, al66, ap29_29, ap64_64, bd66, bd71, bs29_1, bs64_1, fa63_0, fa63_1, fa63_2, fa66_0, fa66_2, fa66_3, fa71_0, fa71_1, ld3, ld4, ld22, ld64, ld66, ln22, st3, st64, st66, h4, h5, h6, wk]
            simp only [List.map_cons, List.map_nil, cv_int, (OwnRow.nil (H := H13).kok (by simp)).2.2] at q15
            have q16 := q15.sel2 [0, 2] (by decide) rfl
            simp only [List.filterMap_cons, List.filterMap_nil, List.getElem?_cons_zero, List.getElem?_cons_succ] at q16
            refine ⟨k, by omega, _, _, m + 1, _, _, sl12, _, r.drop 5, rfl, rfl, by omega, q16, r12, fun hb => ?_, fun _ => ⟨by omega, g4⟩, fun hb => .inr ?_⟩
            · have h5' : ¬ r.length < 5 := by simpa using hb
              rw [g1]
              exact rdAll_ok (by unfold rdIns; rw [if_neg h5', if_neg hop])
            · have h5' : r.length < 5 := by simpa using hb
              rw [g1, rdAll_bad (by unfold rdIns; rw [if_pos h5'])]; rfl
      · obtain rfl : bad = true := by simpa using u2
        try simp -implicitDefEqProofs only [kz, kk0, kk1, kk2, kk3, ↓two_true, ↓two_false, mkv, aggAt, Nat.reduceLeDiff, Nat.reduceSub, Nat.reduceMul, implies_true, Nat.reduceEqDiff, reduceIte, Nat.reduceAdd, Nat.reduceBEq, reduceCtorEq, al66, ap29_29, ap64_64, bd66, bd71, bs29_1, bs64_1, fa63_0, fa63_1, fa63_2, fa66_0, fa66_2, fa66_3, fa71_0, fa71_1, ld3, ld4, ld22, ld64, ld66, ln22, st3, st64, st66, h4, h5, h6, q.rd 1 rfl]
        rw [rdR_bad hK (g2 rfl)]
        exact ⟨⟨_, 0, [], rfl, New.nil, rfl, by omega⟩, q.ext⟩
    · have hk0 : k = 0 := by have h5 := of_decide_eq_false u1; omega
      subst hk0
      cases bad with
      | true =>
        try simp -implicitDefEqProofs only [kz, kk0, kk1, kk2, kk3, ↓two_true, ↓two_false, mkv, aggAt, Nat.reduceLeDiff, Nat.reduceSub, Nat.reduceMul, implies_true, Nat.reduceEqDiff, reduceIte, Nat.reduceAdd, Nat.reduceBEq, reduceCtorEq, al66, ap29_29, ap64_64, bd66, bd71, bs29_1, bs64_1, fa63_0, fa63_1, fa63_2, fa66_0, fa66_2, fa66_3, fa71_0, fa71_1, ld3, ld4, ld22, ld64, ld66, ln22, st3, st64, st66, h4, h5, h6, q.rd 1 rfl]
        rw [rdR_bad hK (g2 rfl)]
        exact ⟨⟨_, 0, [], rfl, New.nil, rfl, by omega⟩, q.ext⟩
      | false =>
        obtain ⟨g3, g4⟩ := g0 rfl
        have g1 := g1 rfl
        simp only [rdAll, Option.map_some, List.append_nil] at g1
        have hR := rdR_go hK g4 g1
        obtain ⟨ra, rc, e, -⟩ := ro.row.op
        subst e
        obtain ⟨nw, hV⟩ := q.new 0 rfl
        have hmK : m = K := by omega
        subst hmK
        simp -implicitDefEqProofs only [kz, kk0, kk1, kk2, kk3, ↓two_true, ↓two_false, mkv, aggAt, Nat.reduceLeDiff, Nat.reduceSub, Nat.reduceMul, implies_true, Nat.reduceEqDiff, reduceIte, Nat.reduceAdd, Nat.reduceBEq, reduceCtorEq, al66, ap29_29, ap64_64, bd66, bd71, bs29_1, bs64_1, fa63_0, fa63_1, fa63_2, fa66_0, fa66_2, fa66_3, fa71_0, fa71_1, ld3, ld4, ld22, ld64, ld66, ln22, st3, st64, st66, h4, h5, h6, q.rd 1 rfl]
        refine two_intro (fun u2 => ?_) (fun u2 => ?_)
        · have hr : r ≠ [] := by rintro rfl; simp at u2
          rw [if_neg (fun h => hr h.1)] at hR
          try simp -implicitDefEqProofs only [kz, kk0, kk1, kk2, kk3, ↓two_true, ↓two_false, mkv, aggAt, Nat.reduceLeDiff, Nat.reduceSub, Nat.reduceMul, implies_true, Nat.reduceEqDiff, reduceIte, Nat.reduceAdd, Nat.reduceBEq, reduceCtorEq, al66, ap29_29, ap64_64, bd66, bd71, bs29_1, bs64_1, fa63_0, fa63_1, fa63_2, fa66_0, fa66_2, fa66_3, fa71_0, fa71_1, ld3, ld4, ld22, ld64, ld66, ln22, st3, st64, st66, h4, h5, h6, q.rd 1 rfl]
          rw [hR]
          exact ⟨⟨_, 0, [], rfl, New.nil, rfl, by omega⟩, q.ext⟩
        · have hr : r = [] := by
            cases r with
            | nil => rfl
            | cons x t => exfalso; simp at u2
          subst hr
          have hc := implCodeOk_ok nw.ot.frow (by omega)
          rw [hV] at hc
          refine hc.mono ?_
          rintro _ H30 ⟨rfl, hK30⟩
          have q30 := q.extd hK30
          simp only [true_and] at hR
          try simp -implicitDefEqProofs only [kz, kk0, kk1, kk2, kk3, ↓two_true, ↓two_false, mkv, aggAt, Nat.reduceLeDiff, Nat.reduceSub, Nat.reduceMul, implies_true, Nat.reduceEqDiff, reduceIte, Nat.reduceAdd, Nat.reduceBEq, reduceCtorEq, al66, ap29_29, ap64_64, bd66, bd71, bs29_1, bs64_1, fa63_0, fa63_1, fa63_2, fa66_0, fa66_2, fa66_3, fa71_0, fa71_1, ld3, ld4, ld22, ld64, ld66, ln22, st3, st64, st66, h4, h5, h6, q30.rd 1 rfl]
          refine two_intro (fun u3 => ?_) (fun u3 => ?_)
          · have hk : cdOk (insL V m) = false := by simpa using u3
            rw [hk, if_neg (by decide)] at hR
            try simp -implicitDefEqProofs only [kz, kk0, kk1, kk2, kk3, ↓two_true, ↓two_false, mkv, aggAt, Nat.reduceLeDiff, Nat.reduceSub, Nat.reduceMul, implies_true, Nat.reduceEqDiff, reduceIte, Nat.reduceAdd, Nat.reduceBEq, reduceCtorEq, al66, ap29_29, ap64_64, bd66, bd71, bs29_1, bs64_1, fa63_0, fa63_1, fa63_2, fa66_0, fa66_2, fa66_3, fa71_0, fa71_1, ld3, ld4, ld22, ld64, ld66, ln22, st3, st64, st66, h4, h5, h6, q30.rd 1 rfl]
            rw [hR]
            exact ⟨⟨_, 0, [], rfl, New.nil, rfl, by omega⟩, q30.ext⟩
          · have hk : cdOk (insL V m) = true := by simpa using u3
            rw [hk, if_pos rfl] at hR
            try simp -implicitDefEqProofs only [kz, kk0, kk1, kk2, kk3, ↓two_true, ↓two_false, mkv, aggAt, Nat.reduceLeDiff, Nat.reduceSub, Nat.reduceMul, implies_true, Nat.reduceEqDiff, reduceIte, Nat.reduceAdd, Nat.reduceBEq, reduceCtorEq, al66, ap29_29, ap64_64, bd66, bd71, bs29_1, bs64_1, fa63_0, fa63_1, fa63_2, fa66_0, fa66_2, fa66_3, fa71_0, fa71_1, ld3, ld4, ld22, ld64, ld66, ln22, st3, st64, st66, h4, h5, h6, q30.rd 1 rfl]
            rw [hR]
            obtain ⟨nw, hV⟩ := q30.new 0 rfl
            exact ⟨⟨_, m, xs, rfl, nw, hV, by omega⟩, q30.ext⟩

theorem ofInt_wrap {z : Int} : BitVec.ofInt 64 (IntKind.i64.wrap z) = BitVec.ofInt 64 z := by
  apply BitVec.eq_of_toNat_eq
  rw [BitVec.toNat_ofInt, BitVec.toNat_ofInt]
  congr 1
  unfold IntKind.wrap
  have e1 : IntKind.i64.signed = true := rfl
  have e2 : (2 : Int) ^ IntKind.i64.bits = 18446744073709551616 := by decide
  have e3 : (2 : Int) ^ (IntKind.i64.bits - 1) = 9223372036854775808 := by decide
  have e4 : ((2 ^ 64 : Nat) : Int) = 18446744073709551616 := by decide
  simp only [e1, e2, e3, e4, true_and]
  split <;> omega
theorem or_byte {y b : Int} (hy : 0 ≤ y ∧ y < 72057594037927936) (hb : 0 ≤ b ∧ b ≤ 255) : orI .i64 (IntKind.i64.wrap (y * 256)) b = IntKind.i64.wrap (b + 256 * y) := by
  obtain ⟨Y, rfl⟩ : ∃ Y : Nat, y = Y := ⟨y.toNat, by omega⟩
  obtain ⟨D, rfl⟩ : ∃ D : Nat, b = D := ⟨b.toNat, by omega⟩
  have h64 : (2 : Nat) ^ 64 = 18446744073709551616 := by decide
  have ho := or_add (a := Y) (b := D) (i := 8) (by show D < 256; omega) (by show 256 * Y + D < 2 ^ 64; omega)
  unfold orI
  show IntKind.i64.wrap ((BitVec.ofInt 64 (IntKind.i64.wrap ((Y : Int) * 256)) ||| BitVec.ofInt 64 (D : Int)).toNat : Int) = _
  rw [ofInt_wrap, show (Y : Int) * 256 = ((2 ^ 8 * Y : Nat) : Int) by omega, ho]
  congr 1
  omega
theorem rdNumsS_none {k : Nat} : ∀ {r : List Int}, r.length < 8 * k → rdNums nfS k r = none := by
  induction k with
  | zero => intro r h; omega
  | succ k ih =>
    intro r h
    rw [rdNums]
    split
    · rfl
    · have : rdNums nfS k (r.drop 8) = none := ih (by simp; omega)
      simp only [nfS, this]; rfl

end Go.Proofs.Ytdagncfnkenbfaa.AM
