/- What the functions answer, part 2. -/
import Derived.Test.YtamlfhngenndfaaP1
set_option linter.unusedVariables false
set_option linter.unusedSimpArgs false
set_option linter.defProp false
set_option maxRecDepth 100000
/- What the functions answer, part 2. -/
namespace Go.Proofs.Ytamlfhngenndfaa.AM
open Go Go.Proofs.Ytamlfhngenndfaa Go.Proofs
set_option maxHeartbeats 4000000 in
theorem containsFuncInstr_ok {H : AH} {v : Value} {n : Nat} {xs : List Value} {g : FuncId} {p : List CV → Bool} (hv : FRow H v kInstr n xs) (hl : n ≤ 1073741824)
    (hp : ∀ (L : AH) x, All2 (H ++ L) kInstr x → CallsA Try.prog g #[.agg x.toArray] (H ++ L) fun r H' => r = .bool (p (x.map (cv (H ++ L)))) ∧ ∃ K, H' = (H ++ L) ++ K) :
    CallsA Try.prog 63 #[v, .func (.func g) #[] #[]] H fun r H' => r = .bool ((chunk 6 (cvs H xs) n).any p) ∧ ∃ K, H' = H ++ K := by
  have e := fun Φ => (indexFuncInstr_ok hv hl hp).eqV (Φ := Φ)
  refine w63 ?_
  unfold k63
  simp -implicitDefEqProofs only [kz, kk0, kk1, kk2, kk3, ↓two_true, ↓two_false, oS_some, oM_some, mkv, aggAt, Nat.reduceLeDiff, Nat.reduceSub, Nat.reduceMul, implies_true, Nat.reduceEqDiff, reduceIte, Nat.reduceAdd, Nat.reduceBEq, reduceCtorEq, e, idxF_any]
  exact ⟨_, rfl⟩

def numsOk (l : List Int) : Bool := inB l.length 1 300 && l.all numOk

structure Ins where
  op : Int
  a : Int
  s : Int
  o : Int
  w : Int
  nums : List Int
def insOf : List CV → Ins
  | [.i op, .i a, .i s, .i o, .i w, .r l] => ⟨op, a, s, o, w, l⟩
  | _ => ⟨0, 0, 0, 0, 0, []⟩
def insOk (x : Ins) : Bool :=
  (x.op == 1 && (x.a == 0 && ((x.s == 0 && (x.o == 0 && x.w == 0)) && numsOk x.nums))) ||
  ((x.op == 2 || x.op == 3) && (inB x.a 0 25 && ((x.s == 0 && (x.o == 0 && x.w == 0)) && (x.nums.length : Int) == 0))) ||
  (x.op == 4 && (x.a == 0 && (funOne x.s x.o x.w && (x.nums.length : Int) == 0))) ||
  (x.op == 5 && (x.a == 0 && (funTwo x.s x.o x.w && (x.nums.length : Int) == 0)))
def tk (x : Ins) : Int := if x.op = 5 then 2 else if x.op = 3 ∨ x.op = 4 then 1 else 0
def dAt (l : List Ins) (i : Nat) : Int := ((l.take i).map fun x => 1 - tk x).sum
def dOk (l : List Ins) : Bool := (List.range l.length).all fun i => match l[i]? with | some x => decide (tk x ≤ dAt l i) | none => true
def dL (l : List Ins) : List Int := (List.range (l.length + 1)).map (dAt l)
def cdOk (l : List Ins) : Bool := inB l.length 1 60 && (l.all insOk && (dOk l && dAt l l.length == 1))
def insL (V : List CV) (n : Nat) : List Ins := (chunk 6 V n).map insOf
theorem insL_len {V : List CV} {n : Nat} : (insL V n).length = n := by simp [insL, chunk_len]
theorem insL_get {H : AH} {xs : List Value} {n i : Nat} (h : i < n) : (insL (cvs H xs) n)[i]? = some (insOf ((elm 6 xs i).map (cv H))) := by
  simp only [insL, List.getElem?_map, chunk_get h, Option.map_some]
theorem dAt_succ {l : List Ins} {i : Nat} {x : Ins} (h : l[i]? = some x) : dAt l (i + 1) = dAt l i + 1 - tk x := by
  obtain ⟨h1, h2⟩ := List.getElem?_eq_some_iff.1 h
  unfold dAt
  rw [List.take_succ_eq_append_getElem h1, h2, List.map_append, List.sum_append]
  simp
  omega
theorem tk_le {x : Ins} : 0 ≤ tk x ∧ tk x ≤ 2 := by
  unfold tk
  split
  · omega
  · split <;> omega
theorem dAt_le {l : List Ins} : ∀ {i : Nat}, -(i : Int) ≤ dAt l i ∧ dAt l i ≤ i
  | 0 => by simp [dAt]
  | i + 1 => by
    have h := dAt_le (l := l) (i := i)
    cases hx : l[i]? with
    | none =>
      have hl : l.length ≤ i := List.getElem?_eq_none_iff.1 hx
      have : dAt l (i + 1) = dAt l i := by unfold dAt; rw [List.take_of_length_le (by omega), List.take_of_length_le hl]
      omega
    | some x =>
      rw [dAt_succ hx]
      have := tk_le (x := x)
      omega
theorem dOk_false {l : List Ins} {i : Nat} {x : Ins} (h : l[i]? = some x) (hd : dAt l i < tk x) : dOk l = false := by
  obtain ⟨h1, _⟩ := List.getElem?_eq_some_iff.1 h
  rw [Bool.eq_false_iff]
  intro ha
  have := (List.all_eq_true.1 ha) i (List.mem_range.2 h1)
  simp only [h, decide_eq_true_eq] at this
  omega
theorem dOk_true {l : List Ins} (h : ∀ (i : Nat) x, l[i]? = some x → tk x ≤ dAt l i) : dOk l = true := by
  refine List.all_eq_true.2 fun i _ => ?_
  split
  · rename_i x hx; simpa using h i x hx
  · rfl
theorem dL_get {l : List Ins} {i : Nat} (h : i ≤ l.length) : (dL l)[i]? = some (dAt l i) := by
  unfold dL
  rw [List.getElem?_map, List.getElem?_range (by omega)]
  rfl
theorem all2_instr {H : AH} {x : List Value} (h : All2 H kInstr x) : ∃ op a s o w y, x = [.int .i64 op, .int .i64 a, .int .i64 s, .int .i64 o, .int .i64 w, y] ∧ KOk H .r y ∧ insOf (x.map (cv H)) = ⟨op, a, s, o, w, rowI H y⟩ := by
  obtain ⟨y0, _, rfl, ⟨a0, rfl⟩, y1, _, rfl, ⟨a1, rfl⟩, y2, _, rfl, ⟨a2, rfl⟩, y3, _, rfl, ⟨a3, rfl⟩, y4, _, rfl, ⟨a4, rfl⟩, y5, _, rfl, k5, rfl⟩ := h
  refine ⟨a0, a1, a2, a3, a4, y5, rfl, k5, ?_⟩
  simp only [List.map_cons, List.map_nil, cv_row k5.1, cv_int, insOf]

theorem numsOk1_eq {x : Int} {H : AH} {Φ : Value → AH → Prop} : CallsA Try.prog 104 #[.int .i64 x] H Φ = Φ (.bool (!numOk x)) H := by
  have : CallsA Try.prog 104 #[.int .i64 x] H fun r H' => r = .bool (!numOk x) ∧ H' = H := by
    refine w104 ?_
    unfold k104
    simp -implicitDefEqProofs only [kz, kk0, kk1, kk2, kk3, ↓two_true, ↓two_false, oS_some, oM_some, mkv, aggAt, Nat.reduceLeDiff, Nat.reduceSub, Nat.reduceMul, implies_true, Nat.reduceEqDiff, reduceIte, Nat.reduceAdd, Nat.reduceBEq, reduceCtorEq, implNumOk_eq]
  exact this.eq0

set_option maxHeartbeats 4000000 in
theorem implNumsOk_ok {H : AH} {v : Value} {l : List Int} (hv : IntRow H v l) (hl : l.length < 4611686018427387904) : CallsA Try.prog 88 #[v] H fun r H' => r = .bool (numsOk l) ∧ H' = H := by
  have ec := fun Φ => (containsFuncI_ok (H := H) hv hl (fun x H Φ => numsOk1_eq)).eq0 (Φ := Φ)
  obtain ⟨a, c, rfl, _⟩ := hv.op
  refine w88 ?_
  unfold k88
  simp -implicitDefEqProofs only [kz, kk0, kk1, kk2, kk3, ↓two_true, ↓two_false, oS_some, oM_some, mkv, aggAt, Nat.reduceLeDiff, Nat.reduceSub, Nat.reduceMul, implies_true, Nat.reduceEqDiff, reduceIte, Nat.reduceAdd, Nat.reduceBEq, reduceCtorEq, ln58, ec, within_eq]
  unfold numsOk
  refine two_intro (fun h => ?_) (fun h => ?_)
  · rw [h, any_not]; simp
  · rw [h]; rfl
theorem implNumsOk_eq {H : AH} {v : Value} (hv : OkI H v) (hl : (rowI H v).length < 4611686018427387904) {Φ : Value → AH → Prop} : CallsA Try.prog 88 #[v] H Φ = Φ (.bool (numsOk (rowI H v))) H := (implNumsOk_ok hv hl).eq0

set_option maxHeartbeats 4000000 in
theorem l9Nums_ok {H : AH} {v : Value} {l : List Int} (hv : IntRow H v l) (hl : l.length < 4611686018427387904) : CallsA Try.prog 84 #[v] H fun r H' => r = .bool (numsOk l) ∧ H' = H := by
  obtain ⟨a, c, rfl, gv⟩ := hv.op
  refine w84 ?_
  unfold k84
  simp -implicitDefEqProofs only [kz, kk0, kk1, kk2, kk3, ↓two_true, ↓two_false, oS_some, oM_some, mkv, aggAt, Nat.reduceLeDiff, Nat.reduceSub, Nat.reduceMul, implies_true, Nat.reduceEqDiff, reduceIte, Nat.reduceAdd, Nat.reduceBEq, reduceCtorEq, ix58, ld3, ln58]
  refine rW_loop (σ := Nat) (fun i tm H' => tm 0 = .slice a l.length c ∧ tm 3 = .int .i64 i ∧ H' = H ∧ i ≤ l.length ∧ ∀ x ∈ l.take i, numOk x = true) (fun i => l.length - i) 0 ?_ ?_
  · simp -implicitDefEqProofs [kk0, kk1, kk2, kk3, rW_block, ↓two_true, ↓two_false, rW_cond, rO_guard, oS_some, oM_some, mkv, aggAt, Nat.reduceLeDiff, Nat.reduceSub, Nat.reduceMul, cond_true, cond_false, Option.bind_some, List.length_append, List.length_cons, List.length_nil, List.append_assoc, List.cons_append, List.nil_append, List.set_cons_zero, List.set_cons_succ, List.size_toArray, List.all_cons, List.all_nil, List.drop_zero, List.drop_succ_cons, List.take_succ_cons, List.take_zero, List.mem_cons, Prod.mk.injEq, List.not_mem_nil, implies_true, List.getElem?_toArray, List.getElem?_cons_zero, List.getElem?_cons_succ, List.getElem?_nil, Option.getD_some, Option.getD_none, Nat.reduceEqDiff, reduceIte, Nat.reduceAdd, List.map_toArray, List.map_cons, List.map_nil, Bool.false_eq_true, Nat.reduceBEq, Option.map_some, Option.map_none, reduceCtorEq, ix58, ld3, ln58]
  · rintro i tm H' ⟨h0, h3, rfl, hi, hn⟩
    simp -implicitDefEqProofs only [kz, kk0, kk1, kk2, kk3, ↓two_true, ↓two_false, oS_some, oM_some, mkv, aggAt, Nat.reduceLeDiff, Nat.reduceSub, Nat.reduceMul, implies_true, Nat.reduceEqDiff, reduceIte, Nat.reduceAdd, Nat.reduceBEq, reduceCtorEq, ix58, ld3, ln58, h0, h3, l1In_eq]
    refine two_intro (fun hc => ?_) (fun hc => ?_)
    · have hc' : i < l.length := by simpa using hc
      obtain ⟨b, o, cs, rfl, rfl, hrd, _, hcell⟩ := gv (by omega)
      simp -implicitDefEqProofs only [kz, kk0, kk1, kk2, kk3, ↓two_true, ↓two_false, oS_some, oM_some, mkv, aggAt, Nat.reduceLeDiff, Nat.reduceSub, Nat.reduceMul, implies_true, Nat.reduceEqDiff, reduceIte, Nat.reduceAdd, Nat.reduceBEq, reduceCtorEq, ix58, ld3, ln58, h0, h3, specNumOk_eq, Int.toNat_natCast, Nat.mul_one, hrd, hcell i hc', IntWalk.i64_in (↑i + 1) (by omega)]
      refine ⟨⟨by omega, by omega⟩, two_intro (fun h => ?_) (fun h => ?_)⟩
      · have hb : numOk l[i] = false := by simpa using h
        rw [numsOk, all_take_false hc' hb]
        simp
      · refine ⟨i + 1, by omega, by simp, hc', fun x hx => ?_⟩
        rw [List.take_succ_eq_append_getElem hc'] at hx
        rcases List.mem_append.1 hx with hx | hx
        · exact hn x hx
        · rw [List.mem_singleton.1 hx]; simpa using h
    · have hc' : ¬ i < l.length := by simpa using hc
      have hil : i = l.length := by omega
      subst hil
      rw [List.take_length] at hn
      have hall : l.all numOk = true := List.all_eq_true.2 hn
      rw [numsOk, hall]
      simp
theorem l9Nums_eq {H : AH} {v : Value} (hv : OkI H v) (hl : (rowI H v).length < 4611686018427387904) {Φ : Value → AH → Prop} : CallsA Try.prog 84 #[v] H Φ = Φ (.bool (numsOk (rowI H v))) H := (l9Nums_ok hv hl).eq0

set_option maxHeartbeats 4000000 in
theorem implInstrOk_el {H : AH} {x : List Value} (hx : All2 H kInstr x) : CallsA Try.prog 65 #[.agg x.toArray] H fun r H' => r = .bool (insOk (insOf (x.map (cv H)))) ∧ ∃ K, H' = H ++ K := by
  obtain ⟨op, a, s, o, w, y, rfl, ky, e⟩ := all2_instr hx
  rw [e]
  obtain ⟨a', c', e1⟩ := ky.1.slice
  have i1 : IntRow H y (rowI H y) := ky.1
  have w1 := ky.2
  generalize rowI H y = m at *
  subst e1
  have en := fun (L : AH) Φ => implNumsOk_eq (H := H ++ L) (Φ := Φ) i1.mono.ok (by rw [i1.mono.row]; omega)
  have er := fun (L : AH) => (i1.mono (L := L)).row
  refine w65 ?_
  unfold k65
  simp -implicitDefEqProofs only [kz, kk0, kk1, kk2, kk3, ↓two_true, ↓two_false, oS_some, oM_some, mkv, aggAt, Nat.reduceLeDiff, Nat.reduceSub, Nat.reduceMul, implies_true, Nat.reduceEqDiff, reduceIte, Nat.reduceAdd, Nat.reduceBEq, reduceCtorEq, bd61, ef61, eg61, fa63_0, fa63_1, fa63_2, fa63_3, ld3, ld58, ld61, ln58, en, er, within_eq, implFunOne_eq, implFunTwo_eq]
  simp +contextual [two, insOk]

set_option maxHeartbeats 4000000 in
theorem l11Instr_el {H : AH} {x : List Value} (hx : All2 H kInstr x) : CallsA Try.prog 70 #[.agg x.toArray] H fun r H' => r = .bool (insOk (insOf (x.map (cv H)))) ∧ ∃ K, H' = H ++ K := by
  obtain ⟨op, a, s, o, w, y, rfl, ky, e⟩ := all2_instr hx
  rw [e]
  obtain ⟨a', c', e1⟩ := ky.1.slice
  have i1 : IntRow H y (rowI H y) := ky.1
  have w1 := ky.2
  generalize rowI H y = m at *
  subst e1
  have en := fun (L : AH) Φ => l9Nums_eq (H := H ++ L) (Φ := Φ) i1.mono.ok (by rw [i1.mono.row]; omega)
  have er := fun (L : AH) => (i1.mono (L := L)).row
  refine w70 ?_
  unfold k70
  simp -implicitDefEqProofs only [kz, kk0, kk1, kk2, kk3, ↓two_true, ↓two_false, oS_some, oM_some, mkv, aggAt, Nat.reduceLeDiff, Nat.reduceSub, Nat.reduceMul, implies_true, Nat.reduceEqDiff, reduceIte, Nat.reduceAdd, Nat.reduceBEq, reduceCtorEq, al61, bd61, ef61, eg61, fa63_0, fa63_1, fa63_2, fa63_3, ld3, ld58, ld61, ln58, st61, en, er, l1In_eq, specFunOne_eq, specFunTwo_eq]
  simp +contextual [two, insOk]

set_option maxHeartbeats 4000000 in
theorem takes_el {H : AH} {x : List Value} (hx : All2 H kInstr x) : CallsA Try.prog 91 #[.agg x.toArray] H fun r H' => r = .int .i64 (tk (insOf (x.map (cv H)))) ∧ ∃ K, H' = H ++ K := by
  obtain ⟨op, a, s, o, w, y, rfl, ky, e⟩ := all2_instr hx
  rw [e]
  obtain ⟨a', c', e1⟩ := ky.1.slice
  generalize rowI H y = m at *
  subst e1
  refine w91 ?_
  unfold k91
  simp -implicitDefEqProofs only [kz, kk0, kk1, kk2, kk3, ↓two_true, ↓two_false, oS_some, oM_some, mkv, aggAt, Nat.reduceLeDiff, Nat.reduceSub, Nat.reduceMul, implies_true, Nat.reduceEqDiff, reduceIte, Nat.reduceAdd, Nat.reduceBEq, reduceCtorEq, fa63_0, ld3]
  simp +contextual [two, tk]

set_option maxHeartbeats 4000000 in
theorem l11Takes_el {H : AH} {x : List Value} (hx : All2 H kInstr x) (ho : insOk (insOf (x.map (cv H))) = true) : CallsA Try.prog 93 #[.agg x.toArray] H fun r H' => r = .tuple #[.int .i64 (tk (insOf (x.map (cv H)))), .int .i64 (1 - tk (insOf (x.map (cv H))))] ∧ ∃ K, H' = H ++ K := by
  obtain ⟨op, a, s, o, w, y, rfl, ky, e⟩ := all2_instr hx
  rw [e] at ho ⊢
  obtain ⟨a', c', e1⟩ := ky.1.slice
  generalize rowI H y = m at *
  subst e1
  refine w93 ?_
  unfold k93
  simp -implicitDefEqProofs only [kz, kk0, kk1, kk2, kk3, ↓two_true, ↓two_false, oS_some, oM_some, mkv, aggAt, Nat.reduceLeDiff, Nat.reduceSub, Nat.reduceMul, implies_true, Nat.reduceEqDiff, reduceIte, Nat.reduceAdd, Nat.reduceBEq, reduceCtorEq, fa63_0, ld3]
  have hop : op = 1 ∨ op = 2 ∨ op = 3 ∨ op = 4 ∨ op = 5 := by
    simp only [insOk, Bool.or_eq_true, Bool.and_eq_true, beq_iff_eq] at ho
    omega
  rcases hop with rfl | rfl | rfl | rfl | rfl <;> simp [two, tk]
theorem dl_snoc {l : List Ins} {i : Nat} : (List.range (i + 1)).map (dAt l) ++ [dAt l (i + 1)] = (List.range (i + 1 + 1)).map (dAt l) := by
  rw [List.range_succ (n := i + 1), List.map_append]; rfl
theorem dl_get {l : List Ins} {i : Nat} : ((List.range (i + 1)).map (dAt l))[i]? = some (dAt l i) := by
  rw [List.getElem?_map, List.getElem?_range (by omega)]; rfl

set_option maxHeartbeats 4000000 in
theorem deep_ok {H : AH} {v : Value} {n : Nat} {xs : List Value} (hv : FRow H v kInstr n xs) (hl : n ≤ 1048576) :
    CallsA Try.prog 61 #[v] H fun r H' => (∃ w, r = .tuple #[w, .bool (dOk (insL (cvs H xs) n))] ∧ (dOk (insL (cvs H xs) n) = true → OwnRow H' w (dL (insL (cvs H xs) n)) ∧ ∀ b, blkOf w = some b → H.length ≤ b)) ∧ ∃ K, H' = H ++ K := by
  obtain ⟨a, c, rfl, gv⟩ := hv.opn 6 rfl
  generalize hL : insL (cvs H xs) n = l
  have hll : l.length = n := by rw [← hL, insL_len]
  refine w61 ?_
  unfold k61
  simp -implicitDefEqProofs only [kz, kk0, kk1, kk2, kk3, ↓two_true, ↓two_false, oS_some, oM_some, mkv, aggAt, Nat.reduceLeDiff, Nat.reduceSub, Nat.reduceMul, implies_true, Nat.reduceEqDiff, reduceIte, Nat.reduceAdd, Nat.reduceBEq, reduceCtorEq, al63, ap58_58, bs58_1, ix27, ix58, ld3, ld63, ln27, st63]
  refine rW_loop (σ := Nat × Option Addr × Nat) (fun (i, a', c') tm H' => tm 8 = .slice a n c ∧ tm 9 = .int .i64 n ∧ tm 10 = .int .i64 i ∧ tm 4 = .slice a' (i + 1) c' ∧ i ≤ n ∧ OwnRow H' (.slice a' (i + 1) c') ((List.range (i + 1)).map (dAt l)) ∧ (∀ b, blkOf (.slice a' (i + 1) c') = some b → H.length ≤ b) ∧ (∃ K, H' = H ++ K) ∧ ∀ (j : Nat) x, j < i → l[j]? = some x → tk x ≤ dAt l j) (fun s => n - s.1) (0, some ⟨H.length, 0, none⟩, 1) ?_ ?_
  · simp -implicitDefEqProofs [kk0, kk1, kk2, kk3, rW_block, ↓two_true, ↓two_false, rW_cond, rO_guard, oS_some, oM_some, mkv, aggAt, Nat.reduceLeDiff, Nat.reduceSub, Nat.reduceMul, cond_true, cond_false, Option.bind_some, List.length_append, List.length_cons, List.length_nil, List.append_assoc, List.cons_append, List.nil_append, List.set_cons_zero, List.set_cons_succ, List.size_toArray, List.all_cons, List.all_nil, List.drop_zero, List.drop_succ_cons, List.take_succ_cons, List.take_zero, List.mem_cons, Prod.mk.injEq, List.not_mem_nil, implies_true, List.getElem?_toArray, List.getElem?_cons_zero, List.getElem?_cons_succ, List.getElem?_nil, Option.getD_some, Option.getD_none, Nat.reduceEqDiff, reduceIte, Nat.reduceAdd, List.map_toArray, List.map_cons, List.map_nil, Bool.false_eq_true, Nat.reduceBEq, Option.map_some, Option.map_none, reduceCtorEq, al63, ap58_58, bs58_1, ix27, ix58, ld3, ld63, ln27, st63]
    refine ⟨?_, ?_⟩
    · exact .inr ⟨H.length, 0, [.int .i64 0], rfl, by rw [gt0]; rfl, by simp, by simp [ints, dAt]⟩
    · intro b hb; simp [blkOf] at hb; omega
  · rintro ⟨i, a', c'⟩ tm H1 ⟨h8, h9, h10, h4, hi, ho, hf, he, hd⟩
    simp -implicitDefEqProofs only [kz, kk0, kk1, kk2, kk3, ↓two_true, ↓two_false, oS_some, oM_some, mkv, aggAt, Nat.reduceLeDiff, Nat.reduceSub, Nat.reduceMul, implies_true, Nat.reduceEqDiff, reduceIte, Nat.reduceAdd, Nat.reduceBEq, reduceCtorEq, al63, ap58_58, bs58_1, ix27, ix58, ld3, ld63, ln27, st63, h8, h9, h10, h4]
    refine two_intro (fun hc' => ?_) (fun hc' => ?_)
    · have hlt : i < n := by simpa using hc'
      obtain ⟨b, o, cs, rfl, rfl, hrd, hle, hcell⟩ := gv (by omega)
      have x1 := hv.elemn 6 rfl hlt
      have hin : l[i]? = some (insOf ((elm 6 xs i).map (cv H))) := by rw [← hL]; exact insL_get hlt
      have hlen := ext_len he
      have x2 : All2 H1 kInstr (elm 6 xs i) ∧ (elm 6 xs i).map (cv H1) = (elm 6 xs i).map (cv H) := by
        obtain ⟨K, rfl⟩ := he
        exact ⟨x1.mono, x1.mapcv⟩
      have g1 : rd H1 b = some cs := by obtain ⟨K, rfl⟩ := he; rw [rdl (by simp [hrd]), hrd]
      have l1 : ld Try.prog 63 (o + i * 6) cs = some (.agg (elm 6 xs i).toArray) := by rw [ld63]; exact (hcell i hlt).1
      obtain ⟨b2, o2, cs2, e2, hb2, hle2, hcs2⟩ := ho.blk (by simp)
      simp only [Value.slice.injEq, List.length_map, List.length_range] at e2
      obtain ⟨rfl, _, rfl⟩ := e2
      have hcell2 : cs2[o2 + i]? = some (.int .i64 (dAt l i)) := hcs2 i _ dl_get
      obtain ⟨op, ia, is, io, iw, y, ex, ky, ei⟩ := all2_instr x2.1
      rw [← x2.2] at hin
      generalize elm 6 xs i = x at *
      generalize hvv : x.map (cv H1) = vv at *
      obtain ⟨a5, c5, e5⟩ := ky.1.slice
      generalize rowI H1 y = m at *
      subst e5
      subst ex
      have gb : ∀ L, rd (H1 ++ L) b2 = some cs2 := fun L => rd_own (gtl hb2)
      simp -implicitDefEqProofs only [kz, kk0, kk1, kk2, kk3, ↓two_true, ↓two_false, oS_some, oM_some, mkv, aggAt, Nat.reduceLeDiff, Nat.reduceSub, Nat.reduceMul, implies_true, Nat.reduceEqDiff, reduceIte, Nat.reduceAdd, Nat.reduceBEq, reduceCtorEq, al63, ap58_58, bs58_1, ix27, ix58, ld3, ld63, ln27, st63, h8, h9, h10, h4, Int.toNat_natCast, Nat.mul_one, g1, l1, gb, hcell2]
      have x3 : All2 (H1 ++ [⟨[.int .i64 op, .int .i64 ia, .int .i64 is, .int .i64 io, .int .i64 iw, .slice a5 m.length c5], .own⟩]) kInstr _ := x2.1.mono
      have x4 := hvv ▸ x2.1.mapcv (L := [⟨[.int .i64 op, .int .i64 ia, .int .i64 is, .int .i64 io, .int .i64 iw, .slice a5 m.length c5], .own⟩])
      have hb0 : (H1 ++ [⟨[.int .i64 op, .int .i64 ia, .int .i64 is, .int .i64 io, .int .i64 iw, .slice a5 m.length c5], .own⟩] : AH)[H1.length]? = some ⟨[.int .i64 op, .int .i64 ia, .int .i64 is, .int .i64 io, .int .i64 iw, .slice a5 m.length c5], .own⟩ := by rw [gt0]; rfl
      have hb3 := gtl (L := [⟨[.int .i64 op, .int .i64 ia, .int .i64 is, .int .i64 io, .int .i64 iw, .slice a5 m.length c5], .own⟩]) hb2
      have he2 := app_ext (L := [⟨[.int .i64 op, .int .i64 ia, .int .i64 is, .int .i64 io, .int .i64 iw, .slice a5 m.length c5], .own⟩]) he
      have ho2 := ho.mono (L := [⟨[.int .i64 op, .int .i64 ia, .int .i64 is, .int .i64 io, .int .i64 iw, .slice a5 m.length c5], .own⟩])
      have hlm : (H1 ++ [⟨[.int .i64 op, .int .i64 ia, .int .i64 is, .int .i64 io, .int .i64 iw, .slice a5 m.length c5], .own⟩] : AH).length = H1.length + 1 := by simp
      generalize (H1 ++ [⟨[.int .i64 op, .int .i64 ia, .int .i64 is, .int .i64 io, .int .i64 iw, .slice a5 m.length c5], .own⟩] : AH) = H2 at *
      have r0 := rd_own hb0
      have r3 := rd_own hb3
      refine ⟨⟨by omega, by omega⟩, ⟨by omega, by omega⟩, (takes_el x3).mono ?_⟩
      rintro _ H3 ⟨rfl, K3, rfl⟩
      rw [x4]
      have r4 : rd (H2 ++ K3) H1.length = _ := rd_own (gtl hb0)
      have r5 : rd (H2 ++ K3) b2 = _ := rd_own (gtl hb3)
      have ho3 := ho2.mono (L := K3)
      have he3 := app_ext (L := K3) he2
      have x5 := x3.mono (L := K3)
      have x6 : _ = _ := x3.mapcv (L := K3)
      rw [x4] at x6
      have hb4 := gtl (L := K3) hb0
      have hb5 := gtl (L := K3) hb3
      have hlm3 : H2.length ≤ (H2 ++ K3).length := by simp
      generalize (H2 ++ K3) = H3 at *
      simp -implicitDefEqProofs only [kz, kk0, kk1, kk2, kk3, ↓two_true, ↓two_false, oS_some, oM_some, mkv, aggAt, Nat.reduceLeDiff, Nat.reduceSub, Nat.reduceMul, implies_true, Nat.reduceEqDiff, reduceIte, Nat.reduceAdd, Nat.reduceBEq, reduceCtorEq, al63, ap58_58, bs58_1, ix27, ix58, ld3, ld63, ln27, st63, h8, h9, h10, h4, Int.toNat_natCast, Nat.mul_one, r0, r3, r4, r5, hcell2]
      refine two_intro (fun h => ?_) (fun h => ?_)
      · have hlt2 : dAt l i < tk (insOf vv) := by simpa using h
        rw [dOk_false hin hlt2]
        exact ⟨⟨_, rfl, fun h => by cases h⟩, he3⟩
      · have hle3 : tk (insOf vv) ≤ dAt l i := by simp at h; omega
        have hsucc := dAt_succ hin
        have ht := tk_le (x := insOf vv)
        generalize htt : tk (insOf vv) = t at *
        refine ⟨⟨by omega, by omega⟩, (takes_el x5).mono ?_⟩
        rintro _ H4 ⟨rfl, hK4⟩
        rw [x6, htt]
        have ho4 := ho3.ext hK4
        have he4 := ext_trans he3 hK4
        have r6 := rd_ext r4 hK4
        have r7 := rd_ext r5 hK4
        have hd1 := dAt_le (l := l) (i := i)
        have w1 : IntKind.i64.wrap (dAt l i - t) = dAt l i - t := IntWalk.i64_in _ (by omega)
        have w2 : IntKind.i64.wrap (dAt l i - t + 1) = dAt l i - t + 1 := IntWalk.i64_in _ (by omega)
        simp -implicitDefEqProofs only [kz, kk0, kk1, kk2, kk3, ↓two_true, ↓two_false, oS_some, oM_some, mkv, aggAt, Nat.reduceLeDiff, Nat.reduceSub, Nat.reduceMul, implies_true, Nat.reduceEqDiff, reduceIte, Nat.reduceAdd, Nat.reduceBEq, reduceCtorEq, al63, ap58_58, bs58_1, ix27, ix58, ld3, ld63, ln27, st63, h8, h9, h10, h4, Int.toNat_natCast, Nat.mul_one, r4, r5, r6, r7, hcell2, w1, w2]
        refine oA_own ho4.mono intRow1 (by simp; omega) fun a6 c6 H5 o6 x7 => ?_
        have hff : ∀ b, blkOf (.slice a6 (((List.range (i + 1)).map (dAt l)).length + [dAt l i - t + 1].length) c6) = some b → H.length ≤ b := fun b hb => by
          rcases x7.new b hb with h | h
          · exact hf b h
          · have := ext_len he4; simp at h; omega
        have he5 := x7.ext (app_ext he4) hf
        simp -implicitDefEqProofs only [kz, kk0, kk1, kk2, kk3, ↓two_true, ↓two_false, oS_some, oM_some, mkv, aggAt, Nat.reduceLeDiff, Nat.reduceSub, Nat.reduceMul, implies_true, Nat.reduceEqDiff, reduceIte, Nat.reduceAdd, Nat.reduceBEq, reduceCtorEq, al63, ap58_58, bs58_1, ix27, ix58, ld3, ld63, ln27, st63, h8, h9, h10, h4, List.length_map, List.length_range, IntWalk.i64_in (↑i + 1) (by omega)]
        rw [show dAt l i - t + 1 = dAt l (i + 1) by omega, dl_snoc] at o6
        simp only [List.length_map, List.length_range, List.length_cons, List.length_nil, Nat.zero_add] at o6 hff
        exact ⟨(i + 1, a6, c6), by simp only; omega, by simp, rfl, hlt, o6, hff, he5, fun j x hj hx => by
          rcases Nat.lt_or_ge j i with h1 | h1
          · exact hd j x h1 hx
          · have : j = i := by omega
            subst this
            rw [hin] at hx; cases hx; omega⟩
    · have hil : i = n := by have : ¬ i < n := by simpa using hc'
                             omega
      subst hil
      have hdk : dOk l = true := dOk_true fun j x hx => hd j x (by have := (List.getElem?_eq_some_iff.1 hx).1; omega) hx
      rw [hdk]
      refine ⟨⟨_, rfl, fun _ => ⟨?_, hf⟩⟩, he⟩
      unfold dL
      rw [hll]; exact ho

set_option maxHeartbeats 4000000 in
theorem l11Depths_ok {H : AH} {v : Value} {n : Nat} {xs : List Value} (hv : FRow H v kInstr n xs) (hl : n ≤ 1048576) (hok : (insL (cvs H xs) n).all insOk = true) :
    CallsA Try.prog 67 #[v] H fun r H' => (∃ w, r = .tuple #[w, .bool (dOk (insL (cvs H xs) n))] ∧ (dOk (insL (cvs H xs) n) = true → OwnRow H' w (dL (insL (cvs H xs) n)) ∧ ∀ b, blkOf w = some b → H.length ≤ b)) ∧ ∃ K, H' = H ++ K := by
  obtain ⟨a, c, rfl, gv⟩ := hv.opn 6 rfl
  generalize hL : insL (cvs H xs) n = l at *
  have hll : l.length = n := by rw [← hL, insL_len]
  refine w67 ?_
  unfold k67
  simp -implicitDefEqProofs only [kz, kk0, kk1, kk2, kk3, ↓two_true, ↓two_false, oS_some, oM_some, mkv, aggAt, Nat.reduceLeDiff, Nat.reduceSub, Nat.reduceMul, implies_true, Nat.reduceEqDiff, reduceIte, Nat.reduceAdd, Nat.reduceBEq, reduceCtorEq, ap58_58, bs58_1, ix27, ld63, ln27]
  refine rW_loop (σ := Nat × Option Addr × Nat) (fun (i, a', c') tm H' => tm 0 = .slice a n c ∧ tm 6 = .int .i64 i ∧ tm 5 = .int .i64 (dAt l i) ∧ tm 4 = .slice a' (i + 1) c' ∧ i ≤ n ∧ OwnRow H' (.slice a' (i + 1) c') ((List.range (i + 1)).map (dAt l)) ∧ (∀ b, blkOf (.slice a' (i + 1) c') = some b → H.length ≤ b) ∧ (∃ K, H' = H ++ K) ∧ ∀ (j : Nat) x, j < i → l[j]? = some x → tk x ≤ dAt l j) (fun s => n - s.1) (0, some ⟨H.length, 0, none⟩, 1) ?_ ?_
  · simp -implicitDefEqProofs [kk0, kk1, kk2, kk3, rW_block, ↓two_true, ↓two_false, rW_cond, rO_guard, oS_some, oM_some, mkv, aggAt, Nat.reduceLeDiff, Nat.reduceSub, Nat.reduceMul, cond_true, cond_false, Option.bind_some, List.length_append, List.length_cons, List.length_nil, List.append_assoc, List.cons_append, List.nil_append, List.set_cons_zero, List.set_cons_succ, List.size_toArray, List.all_cons, List.all_nil, List.drop_zero, List.drop_succ_cons, List.take_succ_cons, List.take_zero, List.mem_cons, Prod.mk.injEq, List.not_mem_nil, implies_true, List.getElem?_toArray, List.getElem?_cons_zero, List.getElem?_cons_succ, List.getElem?_nil, Option.getD_some, Option.getD_none, Nat.reduceEqDiff, reduceIte, Nat.reduceAdd, List.map_toArray, List.map_cons, List.map_nil, Bool.false_eq_true, Nat.reduceBEq, Option.map_some, Option.map_none, reduceCtorEq, ap58_58, bs58_1, ix27, ld63, ln27, show dAt l 0 = 0 from rfl]
    refine ⟨?_, ?_⟩
    · exact .inr ⟨H.length, 0, [.int .i64 0], rfl, by rw [gt0]; rfl, by simp, by simp [ints]⟩
    · intro b hb; simp [blkOf] at hb; omega
  · rintro ⟨i, a', c'⟩ tm H1 ⟨h0, h6, h5, h4, hi, ho, hf, he, hd⟩
    simp -implicitDefEqProofs only [kz, kk0, kk1, kk2, kk3, ↓two_true, ↓two_false, oS_some, oM_some, mkv, aggAt, Nat.reduceLeDiff, Nat.reduceSub, Nat.reduceMul, implies_true, Nat.reduceEqDiff, reduceIte, Nat.reduceAdd, Nat.reduceBEq, reduceCtorEq, ap58_58, bs58_1, ix27, ld63, ln27, h0, h6, h5, h4]
    refine two_intro (fun hc' => ?_) (fun hc' => ?_)
    · have hlt : i < n := by simpa using hc'
      obtain ⟨b, o, cs, rfl, rfl, hrd, hle, hcell⟩ := gv (by omega)
      have x1 := hv.elemn 6 rfl hlt
      have hin : l[i]? = some (insOf ((elm 6 xs i).map (cv H))) := by rw [← hL]; exact insL_get hlt
      have hio : insOk (insOf ((elm 6 xs i).map (cv H))) = true := (List.all_eq_true.1 hok) _ (List.mem_of_getElem? hin)
      obtain ⟨x2, x3⟩ := x1.ext he
      have g1 := rd_ext hrd he
      have l1 : ld Try.prog 63 (o + i * 6) cs = some (.agg (elm 6 xs i).toArray) := by rw [ld63]; exact (hcell i hlt).1
      simp -implicitDefEqProofs only [kz, kk0, kk1, kk2, kk3, ↓two_true, ↓two_false, oS_some, oM_some, mkv, aggAt, Nat.reduceLeDiff, Nat.reduceSub, Nat.reduceMul, implies_true, Nat.reduceEqDiff, reduceIte, Nat.reduceAdd, Nat.reduceBEq, reduceCtorEq, ap58_58, bs58_1, ix27, ld63, ln27, h0, h6, h5, h4, Int.toNat_natCast, Nat.mul_one, g1, l1]
      refine ⟨⟨by omega, by omega⟩, (l11Takes_el x2 (by rw [x3]; exact hio)).mono ?_⟩
      rintro _ H2 ⟨rfl, hK2⟩
      rw [x3]
      have he2 := ext_trans he hK2
      have ho2 := ho.ext hK2
      have hsucc := dAt_succ hin
      have ht := tk_le (x := insOf ((elm 6 xs i).map (cv H)))
      have hd1 := dAt_le (l := l) (i := i)
      generalize hvv : insOf ((elm 6 xs i).map (cv H)) = vv at *
      have w2 : IntKind.i64.wrap (dAt l i + (1 - tk vv)) = dAt l (i + 1) := by rw [IntWalk.i64_in _ (by omega)]; omega
      simp -implicitDefEqProofs only [kz, kk0, kk1, kk2, kk3, ↓two_true, ↓two_false, oS_some, oM_some, mkv, aggAt, Nat.reduceLeDiff, Nat.reduceSub, Nat.reduceMul, implies_true, Nat.reduceEqDiff, reduceIte, Nat.reduceAdd, Nat.reduceBEq, reduceCtorEq, ap58_58, bs58_1, ix27, ld63, ln27, h0, h6, h5, h4, w2]
      refine two_intro (fun h => ?_) (fun h => ?_)
      · have hlt2 : dAt l i < tk vv := by simpa using h
        rw [dOk_false hin hlt2]
        exact ⟨⟨_, rfl, fun h => by cases h⟩, he2⟩
      · have hle3 : tk vv ≤ dAt l i := by simp at h; omega
        refine oA_own ho2.mono intRow1 (by simp; omega) fun a6 c6 H5 o6 x7 => ?_
        have hff : ∀ b, blkOf (.slice a6 (((List.range (i + 1)).map (dAt l)).length + [dAt l (i + 1)].length) c6) = some b → H.length ≤ b := fun b hb => by
          rcases x7.new b hb with h | h
          · exact hf b h
          · have := ext_len he2; simp at h; omega
        have he5 := x7.ext (app_ext he2) hf
        simp -implicitDefEqProofs only [kz, kk0, kk1, kk2, kk3, ↓two_true, ↓two_false, oS_some, oM_some, mkv, aggAt, Nat.reduceLeDiff, Nat.reduceSub, Nat.reduceMul, implies_true, Nat.reduceEqDiff, reduceIte, Nat.reduceAdd, Nat.reduceBEq, reduceCtorEq, ap58_58, bs58_1, ix27, ld63, ln27, h0, h6, h5, h4, List.length_map, List.length_range, IntWalk.i64_in (↑i + 1) (by omega)]
        rw [dl_snoc] at o6
        simp only [List.length_map, List.length_range, List.length_cons, List.length_nil, Nat.zero_add] at o6 hff
        exact ⟨(i + 1, a6, c6), by simp only; omega, by simp, rfl, rfl, hlt, o6, hff, he5, fun j x hj hx => by
          rcases Nat.lt_or_ge j i with h1 | h1
          · exact hd j x h1 hx
          · have : j = i := by omega
            subst this
            rw [hin] at hx; cases hx; omega⟩
    · have hil : i = n := by have : ¬ i < n := by simpa using hc'
                             omega
      subst hil
      have hdk : dOk l = true := dOk_true fun j x hx => hd j x (by have := (List.getElem?_eq_some_iff.1 hx).1; omega) hx
      rw [hdk]
      refine ⟨⟨_, rfl, fun _ => ⟨?_, hf⟩⟩, he⟩
      unfold dL
      rw [hll]; exact ho

set_option maxHeartbeats 4000000 in
theorem codeOk1_el {H : AH} {x : List Value} (hx : All2 H kInstr x) : CallsA Try.prog 64 #[.agg x.toArray] H fun r H' => r = .bool (!insOk (insOf (x.map (cv H)))) ∧ ∃ K, H' = H ++ K := by
  have hl : x.length = 6 := hx.len
  have et : x.take 6 = x := List.take_of_length_le (by omega)
  have e := fun (L : AH) Φ => (implInstrOk_el (hx.mono (L := L))).eqV (Φ := Φ)
  simp only [hx.mapcv] at e
  refine w64 ?_
  unfold k64
  simp -implicitDefEqProofs only [kz, kk0, kk1, kk2, kk3, ↓two_true, ↓two_false, oS_some, oM_some, mkv, aggAt, Nat.reduceLeDiff, Nat.reduceSub, Nat.reduceMul, implies_true, Nat.reduceEqDiff, reduceIte, Nat.reduceAdd, Nat.reduceBEq, reduceCtorEq, ld63, et, e]
  exact ⟨by omega, _, rfl⟩
theorem any_ins {V : List CV} {n : Nat} : ((chunk 6 V n).any fun V => !insOk (insOf V)) = !(insL V n).all insOk := by
  unfold insL
  rw [List.all_map, List.not_all_eq_any_not]
  rfl

set_option maxHeartbeats 4000000 in
theorem implCodeOk_ok {H : AH} {v : Value} {n : Nat} {xs : List Value} (hv : FRow H v kInstr n xs) (hl : n ≤ 1048576) :
    CallsA Try.prog 32 #[v] H fun r H' => r = .bool (cdOk (insL (cvs H xs) n)) ∧ ∃ K, H' = H ++ K := by
  have ec := fun Φ => (containsFuncInstr_ok (g := 64) (p := fun V => !insOk (insOf V)) hv (by omega) (fun L x hx => codeOk1_el hx)).eqV (Φ := Φ)
  rw [any_ins] at ec
  obtain ⟨a, c, rfl, gv⟩ := hv.opn 6 rfl
  have hll : (insL (cvs H xs) n).length = n := insL_len
  have hcd : cdOk (insL (cvs H xs) n) = (inB n 1 60 && ((insL (cvs H xs) n).all insOk && (dOk (insL (cvs H xs) n) && dAt (insL (cvs H xs) n) n == 1))) := by
    unfold cdOk; rw [hll]
  rw [hcd]
  refine w32 ?_
  unfold k32
  simp -implicitDefEqProofs only [kz, kk0, kk1, kk2, kk3, ↓two_true, ↓two_false, oS_some, oM_some, mkv, aggAt, Nat.reduceLeDiff, Nat.reduceSub, Nat.reduceMul, implies_true, Nat.reduceEqDiff, reduceIte, Nat.reduceAdd, Nat.reduceBEq, reduceCtorEq, ix58, ld3, ln27, within_eq, ec]
  generalize hJ : jk Try.prog 63 #[.slice a n c, .func (.func 64) #[] #[]] H = J
  refine two_intro (fun h1 => ?_) (fun h1 => ?_)
  · rw [show inB n 1 60 = false by simpa using h1]
    exact ⟨rfl, [], by simp⟩
  · rw [show inB n 1 60 = true by simpa using h1]
    refine two_intro (fun h2 => ?_) (fun h2 => ?_)
    · have h3 : (insL (cvs H xs) n).all insOk = false := by simpa using h2
      rw [h3]
      exact ⟨rfl, _, rfl⟩
    · have h3 : (insL (cvs H xs) n).all insOk = true := by simpa using h2
      rw [h3]
      have hd := deep_ok (hv.mono (L := J)) hl
      rw [hv.vals] at hd
      refine hd.mono ?_
      rintro _ H2 ⟨⟨w, rfl, hw⟩, hK⟩
      simp -implicitDefEqProofs only [kz, kk0, kk1, kk2, kk3, ↓two_true, ↓two_false, oS_some, oM_some, mkv, aggAt, Nat.reduceLeDiff, Nat.reduceSub, Nat.reduceMul, implies_true, Nat.reduceEqDiff, reduceIte, Nat.reduceAdd, Nat.reduceBEq, reduceCtorEq, ix58, ld3, ln27]
      refine two_intro (fun h4 => ?_) (fun h4 => ?_)
      · rw [h4]
        obtain ⟨ow, _⟩ := hw h4
        obtain ⟨b2, o2, cs2, rfl, hb2, hle2, hcs2⟩ := ow.blk (by simp [dL])
        have hdl : (dL (insL (cvs H xs) n)).length = n + 1 := by simp [dL, hll]
        have hg := hcs2 n _ (dL_get (by omega))
        rw [hdl]
        simp -implicitDefEqProofs only [kz, kk0, kk1, kk2, kk3, ↓two_true, ↓two_false, oS_some, oM_some, mkv, aggAt, Nat.reduceLeDiff, Nat.reduceSub, Nat.reduceMul, implies_true, Nat.reduceEqDiff, reduceIte, Nat.reduceAdd, Nat.reduceBEq, reduceCtorEq, ix58, ld3, ln27, Int.toNat_natCast, Nat.mul_one, rd_own hb2, hg]
        exact ⟨⟨by omega, by omega⟩, by simp, ext_trans ⟨_, rfl⟩ hK⟩
      · rw [h4]
        exact ⟨rfl, ext_trans ⟨_, rfl⟩ hK⟩

set_option maxHeartbeats 4000000 in
theorem specCodeOk_ok {H : AH} {v : Value} {n : Nat} {xs : List Value} (hv : FRow H v kInstr n xs) (hl : n ≤ 1048576) :
    CallsA Try.prog 36 #[v] H fun r H' => r = .bool (cdOk (insL (cvs H xs) n)) ∧ ∃ K, H' = H ++ K := by
  obtain ⟨a, c, rfl, gv⟩ := hv.opn 6 rfl
  have hll : (insL (cvs H xs) n).length = n := insL_len
  have hcd : cdOk (insL (cvs H xs) n) = (inB n 1 60 && ((insL (cvs H xs) n).all insOk && (dOk (insL (cvs H xs) n) && dAt (insL (cvs H xs) n) n == 1))) := by
    unfold cdOk; rw [hll]
  rw [hcd]
  refine w36 ?_
  unfold k36
  simp -implicitDefEqProofs only [kz, kk0, kk1, kk2, kk3, ↓two_true, ↓two_false, oS_some, oM_some, mkv, aggAt, Nat.reduceLeDiff, Nat.reduceSub, Nat.reduceMul, implies_true, Nat.reduceEqDiff, reduceIte, Nat.reduceAdd, Nat.reduceBEq, reduceCtorEq, ix27, ix58, ld3, ld63, ln27, l1In_eq]
  refine two_intro (fun h1 => ?_) (fun h1 => ?_)
  · rw [show inB n 1 60 = false by simpa using h1]
    exact ⟨rfl, [], by simp⟩
  · rw [show inB n 1 60 = true by simpa using h1]
    refine rW_loop (σ := Nat) (fun i tm H' => tm 0 = .slice a n c ∧ tm 3 = .int .i64 i ∧ i ≤ n ∧ (∃ K, H' = H ++ K) ∧ ∀ x ∈ (insL (cvs H xs) n).take i, insOk x = true) (fun i => n - i) 0 ?_ ?_
    · simp -implicitDefEqProofs [kk0, kk1, kk2, kk3, rW_block, ↓two_true, ↓two_false, rW_cond, rO_guard, oS_some, oM_some, mkv, aggAt, Nat.reduceLeDiff, Nat.reduceSub, Nat.reduceMul, cond_true, cond_false, Option.bind_some, List.length_append, List.length_cons, List.length_nil, List.append_assoc, List.cons_append, List.nil_append, List.set_cons_zero, List.set_cons_succ, List.size_toArray, List.all_cons, List.all_nil, List.drop_zero, List.drop_succ_cons, List.take_succ_cons, List.take_zero, List.mem_cons, Prod.mk.injEq, List.not_mem_nil, implies_true, List.getElem?_toArray, List.getElem?_cons_zero, List.getElem?_cons_succ, List.getElem?_nil, Option.getD_some, Option.getD_none, Nat.reduceEqDiff, reduceIte, Nat.reduceAdd, List.map_toArray, List.map_cons, List.map_nil, Bool.false_eq_true, Nat.reduceBEq, Option.map_some, Option.map_none, reduceCtorEq, ix27, ix58, ld3, ld63, ln27]
    · rintro i tm H1 ⟨h0, h3, hi, he, hn⟩
      simp -implicitDefEqProofs only [kz, kk0, kk1, kk2, kk3, ↓two_true, ↓two_false, oS_some, oM_some, mkv, aggAt, Nat.reduceLeDiff, Nat.reduceSub, Nat.reduceMul, implies_true, Nat.reduceEqDiff, reduceIte, Nat.reduceAdd, Nat.reduceBEq, reduceCtorEq, ix27, ix58, ld3, ld63, ln27, h0, h3]
      refine two_intro (fun hc => ?_) (fun hc => ?_)
      · have hlt : i < n := by simpa using hc
        obtain ⟨b, o, cs, rfl, rfl, hrd, hle, hcell⟩ := gv (by omega)
        have x1 := hv.elemn 6 rfl hlt
        obtain ⟨x2, x3⟩ := x1.ext he
        have hin := insL_get (H := H) (xs := xs) hlt
        have hli : i < (insL (cvs H xs) n).length := by omega
        have hin' : (insL (cvs H xs) n)[i] = insOf ((elm 6 xs i).map (cv H)) := by rw [List.getElem?_eq_getElem hli] at hin; exact Option.some.inj hin
        have g1 := rd_ext hrd he
        have l1 : ld Try.prog 63 (o + i * 6) cs = some (.agg (elm 6 xs i).toArray) := by rw [ld63]; exact (hcell i hlt).1
        have ei := fun Φ => (l11Instr_el x2).eqV (Φ := Φ)
        rw [x3] at ei
        simp -implicitDefEqProofs only [kz, kk0, kk1, kk2, kk3, ↓two_true, ↓two_false, oS_some, oM_some, mkv, aggAt, Nat.reduceLeDiff, Nat.reduceSub, Nat.reduceMul, implies_true, Nat.reduceEqDiff, reduceIte, Nat.reduceAdd, Nat.reduceBEq, reduceCtorEq, ix27, ix58, ld3, ld63, ln27, h0, h3, Int.toNat_natCast, g1, l1, ei, IntWalk.i64_in (↑i + 1) (by omega)]
        refine ⟨⟨by omega, by omega⟩, two_intro (fun h => ?_) (fun h => ?_)⟩
        · have hb : insOk (insOf ((elm 6 xs i).map (cv H))) = false := by simpa using h
          have : (insL (cvs H xs) n).all insOk = false := by
            rw [Bool.eq_false_iff]
            intro ha
            rw [(List.all_eq_true.1 ha) _ (List.mem_of_getElem? hin)] at hb
            cases hb
          rw [this]
          exact ⟨rfl, app_ext he⟩
        · refine ⟨i + 1, by omega, by simp, hlt, app_ext he, fun x hx => ?_⟩
          rw [List.take_succ_eq_append_getElem hli, hin'] at hx
          rcases List.mem_append.1 hx with hx | hx
          · exact hn x hx
          · rw [List.mem_singleton.1 hx]; simpa using h
      · have hil : i = n := by have : ¬ i < n := by simpa using hc
                               omega
        subst hil
        rw [List.take_of_length_le (by omega)] at hn
        have hall : (insL (cvs H xs) i).all insOk = true := List.all_eq_true.2 hn
        have hv1 : FRow H1 (.slice a i c) kInstr i xs ∧ cvs H1 xs = cvs H xs := by obtain ⟨K, rfl⟩ := he; exact ⟨hv.mono, hv.vals⟩
        have hd := l11Depths_ok hv1.1 hl (by rw [hv1.2]; exact hall)
        rw [hv1.2] at hd
        rw [hall]
        refine hd.mono ?_
        rintro _ H2 ⟨⟨w, rfl, hw⟩, hK⟩
        have he2 := ext_trans he hK
        simp -implicitDefEqProofs only [kz, kk0, kk1, kk2, kk3, ↓two_true, ↓two_false, oS_some, oM_some, mkv, aggAt, Nat.reduceLeDiff, Nat.reduceSub, Nat.reduceMul, implies_true, Nat.reduceEqDiff, reduceIte, Nat.reduceAdd, Nat.reduceBEq, reduceCtorEq, ix27, ix58, ld3, ld63, ln27, h0]
        refine two_intro (fun h4 => ?_) (fun h4 => ?_)
        · rw [h4]
          obtain ⟨ow, _⟩ := hw h4
          obtain ⟨b2, o2, cs2, rfl, hb2, hle2, hcs2⟩ := ow.blk (by simp [dL])
          have hdl : (dL (insL (cvs H xs) i)).length = i + 1 := by simp [dL, hll]
          have hg := hcs2 i _ (dL_get (by omega))
          rw [hdl]
          simp -implicitDefEqProofs only [kz, kk0, kk1, kk2, kk3, ↓two_true, ↓two_false, oS_some, oM_some, mkv, aggAt, Nat.reduceLeDiff, Nat.reduceSub, Nat.reduceMul, implies_true, Nat.reduceEqDiff, reduceIte, Nat.reduceAdd, Nat.reduceBEq, reduceCtorEq, ix27, ix58, ld3, ld63, ln27, h0, Int.toNat_natCast, Nat.mul_one, rd_own hb2, hg]
          exact ⟨⟨by omega, by omega⟩, by simp, he2⟩
        · rw [h4]
          exact ⟨rfl, he2⟩
def bts (l : List Int) : List Value := l.map (.int .u8)
theorem bts_len {l : List Int} : (bts l).length = l.length := by simp [bts]
theorem bts_get {l : List Int} {i : Nat} (h : i < l.length) : (bts l)[i]? = some (.int .u8 l[i]) := by simp [bts, h]
theorem bts_app {l m : List Int} : bts l ++ bts m = bts (l ++ m) := by simp [bts]
/-- A slice of bytes that may be read. -/
def ByRow (H : AH) (v : Value) (l : List Int) : Prop :=
  (v = .slice none 0 0 ∧ l = []) ∨ ∃ b o cs, v = .slice (some ⟨b, o, none⟩) l.length 1 ∧ rd H b = some cs ∧ o + l.length ≤ cs.length ∧ (cs.drop o).take l.length = bts l
theorem ByRow.same {H H' : AH} {v : Value} {l : List Int} (h : ByRow H v l) (hs : ∀ b, blkOf v = some b → rd H' b = rd H b) : ByRow H' v l := by
  rcases h with h | ⟨b, o, cs, h1, h2, h3, h4⟩
  · exact .inl h
  · exact .inr ⟨b, o, cs, h1, by rw [hs b (by rw [h1]; rfl)]; exact h2, h3, h4⟩
theorem ByRow.ext {H H' : AH} {v : Value} {l : List Int} (h : ByRow H v l) (he : ∃ K, H' = H ++ K) : ByRow H' v l := by
  obtain ⟨K, rfl⟩ := he
  rcases h with h | ⟨b, o, cs, h1, h2, h3, h4⟩
  · exact .inl h
  · exact .inr ⟨b, o, cs, h1, by rw [rdl (by simp [h2]), h2], h3, h4⟩
theorem ByRow.op {H : AH} {v : Value} {l : List Int} (h : ByRow H v l) : ∃ a c, v = .slice a l.length c ∧ (0 < l.length → ∃ b o cs, a = some ⟨b, o, none⟩ ∧ c = 1 ∧ rd H b = some cs ∧ o + l.length ≤ cs.length ∧ ∀ i (hi : i < l.length), cs[o + i]? = some (.int .u8 l[i])) := by
  rcases h with ⟨rfl, rfl⟩ | ⟨b, o, cs, rfl, h1, h2, h3⟩
  · exact ⟨none, 0, rfl, fun h => by simp at h⟩
  · refine ⟨_, _, rfl, fun _ => ⟨b, o, cs, rfl, rfl, h1, h2, fun i hi => ?_⟩⟩
    have := bts_get hi
    rw [← h3, List.getElem?_take_of_lt hi, List.getElem?_drop] at this
    exact this
/-- A slice of bytes that is a whole block of its own, or nil. -/
def ByNew (H0 H : AH) (v : Value) (l : List Int) : Prop :=
  (v = .slice none 0 0 ∧ l = []) ∨ ∃ b, v = .slice (some ⟨b, 0, none⟩) l.length 1 ∧ H0.length ≤ b ∧ H[b]? = some ⟨bts l, .own⟩
theorem ByNew.row {H0 H : AH} {v : Value} {l : List Int} (h : ByNew H0 H v l) : ByRow H v l := by
  rcases h with h | ⟨b, h1, h2, h3⟩
  · exact .inl h
  · exact .inr ⟨b, 0, bts l, h1, rd_own h3, by rw [bts_len]; omega, by rw [List.drop_zero, List.take_of_length_le (by rw [bts_len]; exact Nat.le_refl _)]⟩
theorem ByNew.ext {H0 H H' : AH} {v : Value} {l : List Int} (h : ByNew H0 H v l) (he : ∃ K, H' = H ++ K) : ByNew H0 H' v l := by
  obtain ⟨K, rfl⟩ := he
  rcases h with h | ⟨b, h1, h2, h3⟩
  · exact .inl h
  · exact .inr ⟨b, h1, h2, gtl h3⟩
theorem ByNew.same {H0 H H' : AH} {v : Value} {l : List Int} (h : ByNew H0 H v l) (hs : ∀ b, blkOf v = some b → H'[b]? = H[b]?) : ByNew H0 H' v l := by
  rcases h with h | ⟨b, h1, h2, h3⟩
  · exact .inl h
  · exact .inr ⟨b, h1, h2, by rw [hs b (by rw [h1]; rfl)]; exact h3⟩
theorem ByNew.lt {H0 H : AH} {v : Value} {l : List Int} (h : ByNew H0 H v l) {b : Nat} (hb : blkOf v = some b) : H0.length ≤ b ∧ b < H.length := by
  rcases h with ⟨rfl, _⟩ | ⟨b', rfl, h2, h3⟩
  · simp [blkOf] at hb
  · simp [blkOf] at hb; subst hb; exact ⟨h2, (List.getElem?_eq_some_iff.1 h3).1⟩
def mksB (k : Int) (n : Nat) : List Int := (List.range n).map fun (i : Nat) => IntKind.u8.wrap (k + (i : Int))
theorem mksB_len {k : Int} {n : Nat} : (mksB k n).length = n := by simp [mksB]
theorem mksB_get {k : Int} {n i : Nat} (h : i < n) : (mksB k n)[i]? = some (IntKind.u8.wrap (k + i)) := by simp [mksB, h]
/-- What heldByteS answers. -/
def heldB (l : List Int) (k : Int) : Int := if l = mksB k l.length then k + l.length else -1
theorem heldB_mks {k : Int} {n : Nat} : heldB (mksB k n) k = k + n := by simp [heldB, mksB_len]

set_option maxHeartbeats 4000000 in
theorem eqByteS_ok {H : AH} {v w : Value} {l m : List Int} (hv : ByRow H v l) (hw : ByRow H w m) (hl : l.length < 9223372036854775807) : CallsA Try.prog 12 #[v, w] H fun r H' => r = .bool (l == m) ∧ H' = H := by
  obtain ⟨a, c, rfl, gv⟩ := hv.op
  obtain ⟨a', c', rfl, gw⟩ := hw.op
  refine w12 ?_
  unfold k12
  simp -implicitDefEqProofs only [kz, kk0, kk1, kk2, kk3, ↓two_true, ↓two_false, oS_some, oM_some, mkv, aggAt, Nat.reduceLeDiff, Nat.reduceSub, Nat.reduceMul, implies_true, Nat.reduceEqDiff, reduceIte, Nat.reduceAdd, Nat.reduceBEq, reduceCtorEq, ix24, ld5, ln24]
  refine two_intro (fun h => ?_) (fun h => ?_)
  · have : (l == m) = false := by
      rw [beq_eq_false_iff_ne]
      rintro rfl
      simp at h
    rw [this]
  · have hlen : l.length = m.length := by simp at h; omega
    refine rW_loop (σ := Nat) (fun i tm H' => tm 0 = .slice a l.length c ∧ tm 1 = .slice a' m.length c' ∧ tm 5 = .int .i64 i ∧ H' = H ∧ i ≤ l.length ∧ ∀ j, j < i → l[j]? = m[j]?) (fun i => l.length - i) 0 ?_ ?_
    · simp -implicitDefEqProofs [kk0, kk1, kk2, kk3, rW_block, ↓two_true, ↓two_false, rW_cond, rO_guard, oS_some, oM_some, mkv, aggAt, Nat.reduceLeDiff, Nat.reduceSub, Nat.reduceMul, cond_true, cond_false, Option.bind_some, List.length_append, List.length_cons, List.length_nil, List.append_assoc, List.cons_append, List.nil_append, List.set_cons_zero, List.set_cons_succ, List.size_toArray, List.all_cons, List.all_nil, List.drop_zero, List.drop_succ_cons, List.take_succ_cons, List.take_zero, List.mem_cons, Prod.mk.injEq, List.not_mem_nil, implies_true, List.getElem?_toArray, List.getElem?_cons_zero, List.getElem?_cons_succ, List.getElem?_nil, Option.getD_some, Option.getD_none, Nat.reduceEqDiff, reduceIte, Nat.reduceAdd, List.map_toArray, List.map_cons, List.map_nil, Bool.false_eq_true, Nat.reduceBEq, Option.map_some, Option.map_none, reduceCtorEq, ix24, ld5, ln24]
    · rintro i tm H' ⟨h0, h1, h5, rfl, hi, hn⟩
      simp -implicitDefEqProofs only [kz, kk0, kk1, kk2, kk3, ↓two_true, ↓two_false, oS_some, oM_some, mkv, aggAt, Nat.reduceLeDiff, Nat.reduceSub, Nat.reduceMul, implies_true, Nat.reduceEqDiff, reduceIte, Nat.reduceAdd, Nat.reduceBEq, reduceCtorEq, ix24, ld5, ln24, h0, h1, h5]
      refine two_intro (fun hc => ?_) (fun hc => ?_)
      · have hc' : i < l.length := by simpa using hc
        have hc2 : i < m.length := by omega
        obtain ⟨b, o, cs, rfl, rfl, hrd, _, hcell⟩ := gv (by omega)
        obtain ⟨b', o', cs', rfl, rfl, hrd', _, hcell'⟩ := gw (by omega)
        simp -implicitDefEqProofs only [kz, kk0, kk1, kk2, kk3, ↓two_true, ↓two_false, oS_some, oM_some, mkv, aggAt, Nat.reduceLeDiff, Nat.reduceSub, Nat.reduceMul, implies_true, Nat.reduceEqDiff, reduceIte, Nat.reduceAdd, Nat.reduceBEq, reduceCtorEq, ix24, ld5, ln24, h0, h1, h5, Int.toNat_natCast, Nat.mul_one, hrd, hrd', hcell i hc', hcell' i hc2, IntWalk.i64_in (↑i + 1) (by omega)]
        refine ⟨⟨by omega, by omega⟩, ⟨by omega, by omega⟩, two_intro (fun h => ?_) (fun h => ?_)⟩
        · have : (l == m) = false := by
            rw [beq_eq_false_iff_ne]
            rintro rfl
            simp at h
          rw [this]
        · refine ⟨i + 1, by omega, by simp, hc', fun j hj => ?_⟩
          rcases Nat.lt_or_ge j i with h1 | h1
          · exact hn j h1
          · have : j = i := by omega
            subst this
            simpa [hc', hc2] using h
      · have hc' : ¬ i < l.length := by simpa using hc
        have : (l == m) = true := by
          rw [beq_iff_eq]
          refine List.ext_getElem? fun j => ?_
          rcases Nat.lt_or_ge j i with h1 | h1
          · exact hn j h1
          · rw [List.getElem?_eq_none (by omega), List.getElem?_eq_none (by omega)]
        rw [this]

set_option maxHeartbeats 4000000 in
theorem heldByteS_ok {H : AH} {v : Value} {l : List Int} {k : Int} (hv : ByRow H v l) (hl : l.length < 4611686018427387904) (hk : 0 ≤ k ∧ k < 4611686018427387904) : CallsA Try.prog 16 #[v, .int .i64 k] H fun r H' => r = .int .i64 (heldB l k) ∧ H' = H := by
  obtain ⟨a, c, rfl, gv⟩ := hv.op
  refine w16 ?_
  unfold k16
  simp -implicitDefEqProofs only [kz, kk0, kk1, kk2, kk3, ↓two_true, ↓two_false, oS_some, oM_some, mkv, aggAt, Nat.reduceLeDiff, Nat.reduceSub, Nat.reduceMul, implies_true, Nat.reduceEqDiff, reduceIte, Nat.reduceAdd, Nat.reduceBEq, reduceCtorEq, cv3_5, ix24, ld5, ln24]
  refine rW_loop (σ := Nat) (fun i tm H' => tm 0 = .slice a l.length c ∧ tm 1 = .int .i64 (k + i) ∧ tm 5 = .int .i64 i ∧ H' = H ∧ i ≤ l.length ∧ ∀ j, j < i → l[j]? = some (IntKind.u8.wrap (k + j))) (fun i => l.length - i) 0 ?_ ?_
  · simp -implicitDefEqProofs [kk0, kk1, kk2, kk3, rW_block, ↓two_true, ↓two_false, rW_cond, rO_guard, oS_some, oM_some, mkv, aggAt, Nat.reduceLeDiff, Nat.reduceSub, Nat.reduceMul, cond_true, cond_false, Option.bind_some, List.length_append, List.length_cons, List.length_nil, List.append_assoc, List.cons_append, List.nil_append, List.set_cons_zero, List.set_cons_succ, List.size_toArray, List.all_cons, List.all_nil, List.drop_zero, List.drop_succ_cons, List.take_succ_cons, List.take_zero, List.mem_cons, Prod.mk.injEq, List.not_mem_nil, implies_true, List.getElem?_toArray, List.getElem?_cons_zero, List.getElem?_cons_succ, List.getElem?_nil, Option.getD_some, Option.getD_none, Nat.reduceEqDiff, reduceIte, Nat.reduceAdd, List.map_toArray, List.map_cons, List.map_nil, Bool.false_eq_true, Nat.reduceBEq, Option.map_some, Option.map_none, reduceCtorEq, cv3_5, ix24, ld5, ln24]
  · rintro i tm H' ⟨h0, h1, h5, rfl, hi, hn⟩
    simp -implicitDefEqProofs only [kz, kk0, kk1, kk2, kk3, ↓two_true, ↓two_false, oS_some, oM_some, mkv, aggAt, Nat.reduceLeDiff, Nat.reduceSub, Nat.reduceMul, implies_true, Nat.reduceEqDiff, reduceIte, Nat.reduceAdd, Nat.reduceBEq, reduceCtorEq, cv3_5, ix24, ld5, ln24, h0, h1, h5]
    refine two_intro (fun hc => ?_) (fun hc => ?_)
    · have hc' : i < l.length := by simpa using hc
      obtain ⟨b, o, cs, rfl, rfl, hrd, _, hcell⟩ := gv (by omega)
      simp -implicitDefEqProofs only [kz, kk0, kk1, kk2, kk3, ↓two_true, ↓two_false, oS_some, oM_some, mkv, aggAt, Nat.reduceLeDiff, Nat.reduceSub, Nat.reduceMul, implies_true, Nat.reduceEqDiff, reduceIte, Nat.reduceAdd, Nat.reduceBEq, reduceCtorEq, cv3_5, ix24, ld5, ln24, h0, h1, h5, Int.toNat_natCast, Nat.mul_one, hrd, hcell i hc', IntWalk.i64_in (↑i + 1) (by omega), IntWalk.i64_in (k + ↑i + 1) (by omega)]
      refine ⟨⟨by omega, by omega⟩, two_intro (fun h => ?_) (fun h => ?_)⟩
      · have : heldB l k = -1 := by
          unfold heldB
          rw [if_neg]
          intro e
          have e2 := congrArg (fun z : List Int => z[i]?) e
          simp only [mksB_get hc', List.getElem?_eq_getElem hc', Option.some.injEq] at e2
          simp [e2] at h
        rw [this]
      · refine ⟨i + 1, by omega, ?_, by simp, hc', fun j hj => ?_⟩
        · simp only [Int.natCast_add, Int.add_assoc]; rfl
        · rcases Nat.lt_or_ge j i with h1 | h1
          · exact hn j h1
          · have : j = i := by omega
            subst this
            simpa [hc'] using h
    · have hc' : ¬ i < l.length := by simpa using hc
      have hil : i = l.length := by omega
      have : heldB l k = k + l.length := by
        unfold heldB
        rw [if_pos]
        refine List.ext_getElem? fun j => ?_
        rcases Nat.lt_or_ge j i with h1 | h1
        · rw [hn j h1, mksB_get (by omega)]
        · rw [List.getElem?_eq_none (by omega), List.getElem?_eq_none (by rw [mksB_len]; omega)]
      rw [this, hil]

set_option maxHeartbeats 4000000 in
theorem markByteS_ok {H0 H : AH} {v : Value} {l : List Int} {k : Int} (hv : ByNew H0 H v l) (hl : l.length < 4611686018427387904) (hk : 0 ≤ k ∧ k < 4611686018427387904) : CallsA Try.prog 15 #[v, .int .i64 k] H fun r H' => r = .int .i64 (k + l.length) ∧ ByNew H0 H' v (mksB k l.length) ∧ H'.length = H.length ∧ ∀ b, blkOf v ≠ some b → H'[b]? = H[b]? := by
  obtain ⟨a, c, rfl, gv⟩ := hv.row.op
  refine w15 ?_
  unfold k15
  simp -implicitDefEqProofs only [kz, kk0, kk1, kk2, kk3, ↓two_true, ↓two_false, oS_some, oM_some, mkv, aggAt, Nat.reduceLeDiff, Nat.reduceSub, Nat.reduceMul, implies_true, Nat.reduceEqDiff, reduceIte, Nat.reduceAdd, Nat.reduceBEq, reduceCtorEq, cv3_5, ix24, ln24, st5]
  refine rW_loop (σ := Nat) (fun i tm H' => tm 0 = .slice a l.length c ∧ tm 1 = .int .i64 (k + i) ∧ tm 5 = .int .i64 i ∧ ByNew H0 H' (.slice a l.length c) (mksB k i ++ l.drop i) ∧ H'.length = H.length ∧ (∀ b, blkOf (.slice a l.length c) ≠ some b → H'[b]? = H[b]?) ∧ i ≤ l.length) (fun i => l.length - i) 0 ?_ ?_
  · simp -implicitDefEqProofs [kk0, kk1, kk2, kk3, rW_block, ↓two_true, ↓two_false, rW_cond, rO_guard, oS_some, oM_some, mkv, aggAt, Nat.reduceLeDiff, Nat.reduceSub, Nat.reduceMul, cond_true, cond_false, Option.bind_some, List.length_append, List.length_cons, List.length_nil, List.append_assoc, List.cons_append, List.nil_append, List.set_cons_zero, List.set_cons_succ, List.size_toArray, List.all_cons, List.all_nil, List.drop_zero, List.drop_succ_cons, List.take_succ_cons, List.take_zero, List.mem_cons, Prod.mk.injEq, List.not_mem_nil, implies_true, List.getElem?_toArray, List.getElem?_cons_zero, List.getElem?_cons_succ, List.getElem?_nil, Option.getD_some, Option.getD_none, Nat.reduceEqDiff, reduceIte, Nat.reduceAdd, List.map_toArray, List.map_cons, List.map_nil, Bool.false_eq_true, Nat.reduceBEq, Option.map_some, Option.map_none, reduceCtorEq, cv3_5, ix24, ln24, st5]
    exact hv
  · rintro i tm H' ⟨h0, h1, h5, ho, hlen, hfr, hi⟩
    simp -implicitDefEqProofs only [kz, kk0, kk1, kk2, kk3, ↓two_true, ↓two_false, oS_some, oM_some, mkv, aggAt, Nat.reduceLeDiff, Nat.reduceSub, Nat.reduceMul, implies_true, Nat.reduceEqDiff, reduceIte, Nat.reduceAdd, Nat.reduceBEq, reduceCtorEq, cv3_5, ix24, ln24, st5, h0, h1, h5]
    refine two_intro (fun hc => ?_) (fun hc => ?_)
    · have hc' : i < l.length := by simpa using hc
      have hll : (mksB k i ++ l.drop i).length = l.length := by simp [mksB_len]; omega
      rcases ho with ⟨-, e⟩ | ⟨b, e, hb0, hb⟩
      · rw [e] at hll; simp at hll; omega
      · rw [hll] at e
        simp only [Value.slice.injEq] at e
        obtain ⟨rfl, -, rfl⟩ := e
        have hbl : b < H'.length := (List.getElem?_eq_some_iff.1 hb).1
        have hw := wrt_own hb
        have hbt : (bts (mksB k i ++ l.drop i)).length = l.length := by rw [bts_len, hll]
        simp -implicitDefEqProofs only [kz, kk0, kk1, kk2, kk3, ↓two_true, ↓two_false, oS_some, oM_some, mkv, aggAt, Nat.reduceLeDiff, Nat.reduceSub, Nat.reduceMul, implies_true, Nat.reduceEqDiff, reduceIte, Nat.reduceAdd, Nat.reduceBEq, reduceCtorEq, cv3_5, ix24, ln24, st5, h0, h1, h5, Int.toNat_natCast, Nat.mul_one, hw, IntWalk.i64_in (↑i + 1) (by omega), IntWalk.i64_in (k + ↑i + 1) (by omega)]
        refine ⟨⟨by omega, by omega⟩, by rw [hbt]; omega, i + 1, by omega, ?_, by simp, .inr ⟨b, ?_, hb0, ?_⟩, by rw [List.length_set]; exact hlen, fun b' hb' => ?_, hc'⟩
        · simp only [Int.natCast_add, Int.add_assoc]; rfl
        · congr 1; simp [mksB_len]; omega
        · rw [List.getElem?_set_self hbl]
          congr 2
          have e1 : mksB k (i + 1) = mksB k i ++ [IntKind.u8.wrap (k + i)] := by simp [mksB, List.range_succ]
          have e2 : l.drop i = l[i] :: l.drop (i + 1) := List.drop_eq_getElem_cons hc'
          rw [e1, e2, ← bts_app, ← bts_app, List.set_append_right _ _ (by rw [bts_len, mksB_len]; omega), bts_len, mksB_len, Nat.sub_self, ← bts_app, List.append_assoc]
          rfl
        · rw [List.getElem?_set_ne (by rintro rfl; exact hb' rfl), hfr b' hb']
    · have hc' : ¬ i < l.length := by simpa using hc
      have hil : i = l.length := by omega
      subst hil
      rw [List.drop_length, List.append_nil] at ho
      exact ⟨rfl, ho, hlen, hfr⟩

theorem LX.bx {c : Option Nat} {H0 H : AH} {L : List Ix} {o : Nat} {cs : List Value} (h : LX c H0 H L) (i : Nat) (hi : L[i]? = some (.own (.box o cs))) : H[o]? = some ⟨cs, .own⟩ := by
  obtain ⟨B, h⟩ := h
  exact h.ok i _ hi
theorem LX.bxlt {c : Option Nat} {H0 H : AH} {L : List Ix} {o : Nat} {cs : List Value} (h : LX c H0 H L) (i : Nat) (hi : L[i]? = some (.own (.box o cs))) : H0.length ≤ o := by
  obtain ⟨B, h⟩ := h
  exact (h.fr i _ hi o rfl).2
theorem oA_box {H : AH} {b b' n m : Nat} {cs ds : List Value} {Φ : Value → AH → Prop} (hb : H[b]? = some ⟨cs, .own⟩) (hd : rd H b' = some ds) (hn : n = cs.length) (hm : m = ds.length) (hlf : ds.all leaf = true) (h0 : 0 < m) (hl : n + m ≤ 1073741824)
    (k : ∀ H', App H (.slice (some ⟨b, 0, none⟩) n 1) H' (.slice (some ⟨H.length, 0, none⟩) (n + m) 1) → H'.length = H.length + 1 → H'[H.length]? = some ⟨cs ++ ds, .own⟩ → Φ (.slice (some ⟨H.length, 0, none⟩) (n + m) 1) H') :
    oA (app 1 (.slice (some ⟨b, 0, none⟩) n 1) (.slice (some ⟨b', 0, none⟩) m 1) H) Φ := by
  subst hn; subst hm
  have c1 : cl H 1 (.slice (some ⟨b, 0, none⟩) cs.length 1) = some cs := by
    simp only [cl, rd_own hb, Option.bind_some, Nat.mul_one, Nat.zero_add, Nat.le_refl, if_true, List.drop_zero, List.take_length]
  have c2 : cl H 1 (.slice (some ⟨b', 0, none⟩) ds.length 1) = some ds := by
    simp only [cl, hd, Option.bind_some, Nat.mul_one, Nat.zero_add, Nat.le_refl, if_true, List.drop_zero, List.take_length]
  unfold app
  rw [c1, c2]
  have hok : ownOk (.slice (some ⟨b, 0, none⟩) cs.length 1) 1 H = true := by simp [ownOk, hb]
  have e1 : ∀ b n : Nat, lenS (.slice (some ⟨b, 0, none⟩) n 1) = n := fun _ _ => rfl
  simp only [e1]
  rw [if_neg (show ¬ ds.length = 0 by omega), if_pos ⟨hl, hlf, hok⟩]
  refine k _ ⟨by simp [kill_len2], fun b2 hb2 hn => ?_, fun b2 hb2 => .inr ?_⟩ (by simp [kill_len2]) ?_
  · rw [List.getElem?_append_left (by rw [kill_len2]; exact hb2), kill_keep hn]
  · simp [blkOf] at hb2; omega
  · rw [← kill_len2 (v := .slice (some ⟨b, 0, none⟩) cs.length 1), gt0]; rfl
theorem LX.pushB {c : Option Nat} {H0 H H' : AH} {L : List Ix} {b b2 n m : Nat} {cs cs' : List Value} (h : LX c H0 H L) (i : Nat) (hi : L[i]? = some (.own (.box b cs))) (ha : App H (.slice (some ⟨b, 0, none⟩) n 1) H' (.slice (some ⟨b2, 0, none⟩) m 1)) (hb : H'[b2]? = some ⟨cs', .own⟩) : LX c H0 H' (L.set i (.own (.box b2 cs'))) := by
  obtain ⟨B, h⟩ := h
  refine ⟨B, h.upd i hi ha.len (fun g hg hn => ha.keep g hg (fun e => hn ?_)) hb fun g hg => ?_⟩
  · simp [blkOf] at e; exact e.symm
  · have hg : g = b2 := hg
    subst hg
    rcases ha.new g rfl with e | e
    · left; simp [blkOf] at e; exact e.symm
    · exact .inr e
theorem st_appB {c : Option Nat} {H0 H : AH} {L : List Ix} {Φ : Value → AH → Prop} {b b' n m : Nat} {cs ds : List Value} (q : LX c H0 H L) (i j : Nat) (hi : L[i]? = some (.own (.box b cs))) (hj : L[j]? = some (.own (.box b' ds))) (hn : n = cs.length) (hm : m = ds.length) (hlf : ds.all leaf = true) (h0 : 0 < m) (hl : n + m ≤ 1073741824)
    (k : ∀ H', LX c H0 H' (L.set i (.own (.box H.length (cs ++ ds)))) → Φ (.slice (some ⟨H.length, 0, none⟩) (n + m) 1) H') : oA (app 1 (.slice (some ⟨b, 0, none⟩) n 1) (.slice (some ⟨b', 0, none⟩) m 1) H) Φ :=
  oA_box (q.bx i hi) (rd_own (q.bx j hj)) hn hm hlf h0 hl fun H' ha _ hb => k H' (q.pushB i hi ha hb)
theorem App.trans {H H1 H2 : AH} {v v1 v2 : Value} (h1 : App H v H1 v1) (h2 : App H1 v1 H2 v2) : App H v H2 v2 := by
  refine ⟨Nat.le_trans h1.len h2.len, fun b hb hn => ?_, fun b hb => ?_⟩
  · rw [h2.keep b (Nat.lt_of_lt_of_le hb h1.len) (fun e => ?_), h1.keep b hb hn]
    rcases h1.new b e with h | h
    · exact hn h
    · omega
  · rcases h2.new b hb with h | h
    · exact h1.new b h
    · exact .inr (Nat.le_trans h1.len h)
/-- Eight bytes of a number, the lowest first. -/
def le8 (y : Int) : List Int := (List.range 8).map fun j : Nat => IntKind.u8.wrap (y.fdiv (2 ^ (8 * j)))
theorem le8_len {y : Int} : (le8 y).length = 8 := by simp [le8]
theorem le8_take {y : Int} {i : Nat} (h : i < 8) : (le8 y).take (i + 1) = (le8 y).take i ++ [IntKind.u8.wrap (y.fdiv (2 ^ (8 * i)))] := by
  rw [List.take_succ_eq_append_getElem (by rw [le8_len]; exact h)]
  simp [le8]
theorem shr8 {i : Nat} (h : i < 8) : (2 : Int) ^ (min (((8 : Int) * (i : Int)).toNat) IntKind.i64.bits) = 2 ^ (8 * i) := by
  have : ((8 : Int) * (i : Int)).toNat = 8 * i := by omega
  rw [this, Nat.min_eq_left (by show 8 * i ≤ 64; omega)]

set_option maxHeartbeats 4000000 in
theorem putNum_ok {H : AH} {b n : Nat} {W : List Int} {x : Int} (hb : H[b]? = some ⟨bts W, .own⟩) (hn : n = W.length) (hl : n ≤ 1000000) (hx : -1000000000000 ≤ x ∧ x ≤ 1000000000000) :
    CallsA Try.prog 40 #[.slice (some ⟨b, 0, none⟩) n 1, .int .i64 x] H fun r H' => ∃ b', r = .slice (some ⟨b', 0, none⟩) (n + 8) 1 ∧ App H (.slice (some ⟨b, 0, none⟩) n 1) H' (.slice (some ⟨b', 0, none⟩) (n + 8) 1) ∧ H'[b']? = some ⟨bts (W ++ le8 (x + 1000000000000)), .own⟩ := by
  have wx : IntKind.i64.wrap (x + 1000000000000) = x + 1000000000000 := IntWalk.i64_in _ (by omega)
  refine w40 ?_
  unfold k40
  simp -implicitDefEqProofs only [kz, kk0, kk1, kk2, kk3, ↓two_true, ↓two_false, oS_some, oM_some, mkv, aggAt, Nat.reduceLeDiff, Nat.reduceSub, Nat.reduceMul, implies_true, Nat.reduceEqDiff, reduceIte, Nat.reduceAdd, Nat.reduceBEq, reduceCtorEq, ap24_24, bs24_1, cv3_5, wx]
  refine rW_loop (σ := Nat × Nat) (fun x' tm H' => tm 0 = .slice (some ⟨x'.2, 0, none⟩) (n + x'.1) 1 ∧ tm 5 = .int .i64 (x + 1000000000000) ∧ tm 6 = .int .i64 x'.1 ∧ x'.1 ≤ 8 ∧ App H (.slice (some ⟨b, 0, none⟩) n 1) H' (.slice (some ⟨x'.2, 0, none⟩) (n + x'.1) 1) ∧ H'[x'.2]? = some ⟨bts (W ++ (le8 (x + 1000000000000)).take x'.1), .own⟩) (fun x => 8 - x.1) (0, b) ?_ ?_
  · refine ⟨?_, ?_, ?_, Nat.zero_le _, ⟨Nat.le_refl _, fun _ _ _ => rfl, fun _ h => .inl h⟩, ?_⟩
    · simp -implicitDefEqProofs [kk0, kk1, kk2, kk3, rW_block, ↓two_true, ↓two_false, rW_cond, rO_guard, oS_some, oM_some, mkv, aggAt, Nat.reduceLeDiff, Nat.reduceSub, Nat.reduceMul, cond_true, cond_false, Option.bind_some, List.length_append, List.length_cons, List.length_nil, List.append_assoc, List.cons_append, List.nil_append, List.set_cons_zero, List.set_cons_succ, List.size_toArray, List.all_cons, List.all_nil, List.drop_zero, List.drop_succ_cons, List.take_succ_cons, List.take_zero, List.mem_cons, Prod.mk.injEq, List.not_mem_nil, implies_true, List.getElem?_toArray, List.getElem?_cons_zero, List.getElem?_cons_succ, List.getElem?_nil, Option.getD_some, Option.getD_none, Nat.reduceEqDiff, reduceIte, Nat.reduceAdd, List.map_toArray, List.map_cons, List.map_nil, Bool.false_eq_true, Nat.reduceBEq, Option.map_some, Option.map_none, reduceCtorEq, ap24_24, bs24_1, cv3_5]
    · simp -implicitDefEqProofs [kk0, kk1, kk2, kk3, rW_block, ↓two_true, ↓two_false, rW_cond, rO_guard, oS_some, oM_some, mkv, aggAt, Nat.reduceLeDiff, Nat.reduceSub, Nat.reduceMul, cond_true, cond_false, Option.bind_some, List.length_append, List.length_cons, List.length_nil, List.append_assoc, List.cons_append, List.nil_append, List.set_cons_zero, List.set_cons_succ, List.size_toArray, List.all_cons, List.all_nil, List.drop_zero, List.drop_succ_cons, List.take_succ_cons, List.take_zero, List.mem_cons, Prod.mk.injEq, List.not_mem_nil, implies_true, List.getElem?_toArray, List.getElem?_cons_zero, List.getElem?_cons_succ, List.getElem?_nil, Option.getD_some, Option.getD_none, Nat.reduceEqDiff, reduceIte, Nat.reduceAdd, List.map_toArray, List.map_cons, List.map_nil, Bool.false_eq_true, Nat.reduceBEq, Option.map_some, Option.map_none, reduceCtorEq, ap24_24, bs24_1, cv3_5]
    · simp -implicitDefEqProofs [kk0, kk1, kk2, kk3, rW_block, ↓two_true, ↓two_false, rW_cond, rO_guard, oS_some, oM_some, mkv, aggAt, Nat.reduceLeDiff, Nat.reduceSub, Nat.reduceMul, cond_true, cond_false, Option.bind_some, List.length_append, List.length_cons, List.length_nil, List.append_assoc, List.cons_append, List.nil_append, List.set_cons_zero, List.set_cons_succ, List.size_toArray, List.all_cons, List.all_nil, List.drop_zero, List.drop_succ_cons, List.take_succ_cons, List.take_zero, List.mem_cons, Prod.mk.injEq, List.not_mem_nil, implies_true, List.getElem?_toArray, List.getElem?_cons_zero, List.getElem?_cons_succ, List.getElem?_nil, Option.getD_some, Option.getD_none, Nat.reduceEqDiff, reduceIte, Nat.reduceAdd, List.map_toArray, List.map_cons, List.map_nil, Bool.false_eq_true, Nat.reduceBEq, Option.map_some, Option.map_none, reduceCtorEq, ap24_24, bs24_1, cv3_5]
    · simp only [List.take_zero, List.append_nil]; exact hb
  · rintro ⟨i, b1⟩ tm H1 ⟨h0, h5, h6, hi, ha, hb1⟩
    simp only at h0 h5 h6 hi ha hb1
    simp -implicitDefEqProofs only [kz, kk0, kk1, kk2, kk3, ↓two_true, ↓two_false, oS_some, oM_some, mkv, aggAt, Nat.reduceLeDiff, Nat.reduceSub, Nat.reduceMul, implies_true, Nat.reduceEqDiff, reduceIte, Nat.reduceAdd, Nat.reduceBEq, reduceCtorEq, ap24_24, bs24_1, cv3_5, h0, h5, h6]
    refine two_intro (fun u => ?_) (fun u => ?_)
    · have hi2 : i < 8 := by have h5 := of_decide_eq_true u; omega
      have wi : IntKind.i64.wrap ((i : Int) + 1) = ((i + 1 : Nat) : Int) := IntWalk.i64_in ((i : Int) + 1) (by omega)
      have w8 : IntKind.i64.wrap ((8 : Int) * (i : Int)) = (8 : Int) * (i : Int) := IntWalk.i64_in _ (by omega)
      have hsh := fun (t : TypeId) (p q : Operand) => bin_shr (P := Try.prog) (t := t) (x := p) (y := q) (k := .i64) (k' := .i64) (a := x + 1000000000000) (b := (8 : Int) * (i : Int)) (by omega)
      simp only [shr8 hi2] at hsh
      simp -implicitDefEqProofs only [kz, kk0, kk1, kk2, kk3, ↓two_true, ↓two_false, oS_some, oM_some, mkv, aggAt, Nat.reduceLeDiff, Nat.reduceSub, Nat.reduceMul, implies_true, Nat.reduceEqDiff, reduceIte, Nat.reduceAdd, Nat.reduceBEq, reduceCtorEq, ap24_24, bs24_1, cv3_5, h0, h5, h6, wi, w8, hsh]
      have hb2 := gtl (L := [(⟨[.int .u8 (IntKind.u8.wrap ((x + 1000000000000).fdiv (2 ^ (8 * i))))], .own⟩ : Blk)]) hb1
      refine oA_box hb2 (rd_own (by rw [gt0]; rfl)) (by rw [bts_len]; simp [le8_len, hn]; omega) rfl rfl (by decide) (by omega) fun H2 a2 _ hb3 => ?_
      simp -implicitDefEqProofs only [kz, kk0, kk1, kk2, kk3, ↓two_true, ↓two_false, oS_some, oM_some, mkv, aggAt, Nat.reduceLeDiff, Nat.reduceSub, Nat.reduceMul, implies_true, Nat.reduceEqDiff, reduceIte, Nat.reduceAdd, Nat.reduceBEq, reduceCtorEq, ap24_24, bs24_1, cv3_5, h0, h5, h6, wi]
      simp only [List.length_append, List.length_cons, List.length_nil, Nat.zero_add] at a2 hb3
      refine ⟨(i + 1, _), by simp only; omega, rfl, rfl, hi2, ha.trans (App.trans (v1 := .slice (some ⟨b1, 0, none⟩) (n + i) 1) ⟨by simp, fun g hg _ => List.getElem?_append_left hg, fun g hg => .inl hg⟩ a2), ?_⟩
      rw [hb3, le8_take hi2, ← List.append_assoc]
      simp only [← bts_app]
      rfl
    · have hi2 : i = 8 := by have h5 := of_decide_eq_false u; omega
      subst hi2
      rw [List.take_of_length_le (by rw [le8_len]; exact Nat.le_refl _)] at hb1
      exact ⟨b1, rfl, ha, hb1⟩

/-- An instruction's bytes. -/
def pkI (x : Ins) : List Int := ([x.op, x.a, x.s, x.o, x.w].map IntKind.u8.wrap) ++ if x.op = 1 then [IntKind.u8.wrap (x.nums.length : Int), IntKind.u8.wrap ((x.nums.length : Int) / 256)] ++ x.nums.flatMap (fun n => le8 (n + 1000000000000)) else []
def pkG (l : List Ins) : List Int := IntKind.u8.wrap (l.length : Int) :: l.flatMap pkI
def pkA (l : List Ins) : List Int := if cdOk l = true then pkG l else []
def pkT (l : List Ins) (i : Nat) : List Int := IntKind.u8.wrap (l.length : Int) :: (l.take i).flatMap pkI
theorem pkT_succ {l : List Ins} {i : Nat} {x : Ins} (h : l[i]? = some x) : pkT l (i + 1) = pkT l i ++ pkI x := by
  obtain ⟨h1, h2⟩ := List.getElem?_eq_some_iff.1 h
  unfold pkT
  rw [List.take_succ_eq_append_getElem h1, List.flatMap_append, h2]; simp
theorem le8s_len {l : List Int} : (l.flatMap fun n => le8 (n + 1000000000000)).length = l.length * 8 := by
  induction l with
  | nil => rfl
  | cons x l ih => rw [List.flatMap_cons, List.length_append, ih, le8_len, List.length_cons]; omega
theorem insOk_nums {x : Ins} (h : insOk x = true) (h1 : x.op = 1) : numsOk x.nums = true := by
  unfold insOk at h
  rw [h1] at h
  simp at h
  exact h.2.2
theorem pkI_len {x : Ins} (h : insOk x = true) : (pkI x).length ≤ 2407 := by
  unfold pkI
  rw [List.length_append]
  split
  · rename_i h1
    have := insOk_nums h h1
    simp only [numsOk, inB, Bool.and_eq_true, decide_eq_true_eq] at this
    rw [List.length_append, le8s_len]
    simp; omega
  · simp
theorem pkT_len {l : List Ins} (h : l.all insOk = true) : ∀ {i : Nat}, (pkT l i).length ≤ 1 + 2407 * i
  | 0 => by simp [pkT]
  | i + 1 => by
    have ih := pkT_len h (i := i)
    rcases Nat.lt_or_ge i l.length with hi | hi
    · rw [pkT_succ (List.getElem?_eq_getElem hi), List.length_append]
      have := pkI_len (List.all_eq_true.1 h _ (List.getElem_mem hi))
      omega
    · have : pkT l (i + 1) = pkT l i := by unfold pkT; rw [List.take_of_length_le (by omega), List.take_of_length_le hi]
      rw [this]; omega

set_option maxHeartbeats 4000000 in
theorem implPack_ok {H : AH} {v : Value} {n : Nat} {xs : List Value} (hv : FRow H v kInstr n xs) (hl : n ≤ 1048576) :
    CallsA Try.prog 11 #[v] H fun r H' => (∃ w, r = .tuple #[w, .bool (cdOk (insL (cvs H xs) n))] ∧ ByNew H H' w (pkA (insL (cvs H xs) n))) ∧ ∃ K, H' = H ++ K := by
  have hc := implCodeOk_ok hv hl
  obtain ⟨a, c, rfl, gv⟩ := hv.opn 6 rfl
  generalize hL : insL (cvs H xs) n = l at *
  have hll : l.length = n := by rw [← hL, insL_len]
  have q := (LX.nil (H := H))
  refine w11 ?_
  unfold k11
  simp -implicitDefEqProofs only [kz, kk0, kk1, kk2, kk3, ↓two_true, ↓two_false, mkv, aggAt, Nat.reduceLeDiff, Nat.reduceSub, Nat.reduceMul, implies_true, Nat.reduceEqDiff, reduceIte, Nat.reduceAdd, Nat.reduceBEq, reduceCtorEq, al63, ap24_24, bs24_1, bs24_2, bs24_5, cv3_5, fa61_0, fa61_1, fa61_2, fa63_0, fa63_1, fa63_2, fa63_3, ix27, ix58, ld3, ld58, ld63, ln27, ln58, st63]
  refine hc.mono ?_
  rintro _ H1 ⟨rfl, hK1⟩
  have q1 := q.extd hK1
  simp -implicitDefEqProofs only [kz, kk0, kk1, kk2, kk3, ↓two_true, ↓two_false, mkv, aggAt, Nat.reduceLeDiff, Nat.reduceSub, Nat.reduceMul, implies_true, Nat.reduceEqDiff, reduceIte, Nat.reduceAdd, Nat.reduceBEq, reduceCtorEq, al63, ap24_24, bs24_1, bs24_2, bs24_5, cv3_5, fa61_0, fa61_1, fa61_2, fa63_0, fa63_1, fa63_2, fa63_3, ix27, ix58, ld3, ld58, ld63, ln27, ln58, st63]
  refine two_intro (fun u1 => ?_) (fun u1 => ?_)
  · have hk : cdOk l = false := by simpa using u1
    rw [hk]
    exact ⟨⟨_, rfl, .inl ⟨rfl, by unfold pkA; rw [hk]; rfl⟩⟩, hK1⟩
  · have hk : cdOk l = true := by simpa using u1
    have hk' := hk
    unfold cdOk at hk'
    simp only [Bool.and_eq_true] at hk'
    have hb2 : 1 ≤ n ∧ n ≤ 60 := by have := hk'.1; rw [hll] at this; simp [inB] at this; omega
    have hok := hk'.2.1
    clear hk'
    try simp -implicitDefEqProofs only [kz, kk0, kk1, kk2, kk3, ↓two_true, ↓two_false, mkv, aggAt, Nat.reduceLeDiff, Nat.reduceSub, Nat.reduceMul, implies_true, Nat.reduceEqDiff, reduceIte, Nat.reduceAdd, Nat.reduceBEq, reduceCtorEq, al63, ap24_24, bs24_1, bs24_2, bs24_5, cv3_5, fa61_0, fa61_1, fa61_2, fa63_0, fa63_1, fa63_2, fa63_3, ix27, ix58, ld3, ld58, ld63, ln27, ln58, st63]
    refine st_cells q1 fun H2 q2 => ?_
    simp -implicitDefEqProofs only [kz, kk0, kk1, kk2, kk3, ↓two_true, ↓two_false, mkv, aggAt, Nat.reduceLeDiff, Nat.reduceSub, Nat.reduceMul, implies_true, Nat.reduceEqDiff, reduceIte, Nat.reduceAdd, Nat.reduceBEq, reduceCtorEq, al63, ap24_24, bs24_1, bs24_2, bs24_5, cv3_5, fa61_0, fa61_1, fa61_2, fa63_0, fa63_1, fa63_2, fa63_3, ix27, ix58, ld3, ld58, ld63, ln27, ln58, st63]
    have e0 : [Value.int .u8 (IntKind.u8.wrap (n : Int))] = bts (pkT l 0) := by rw [← hll]; rfl
    rw [e0] at q2
    have hT0 : (pkT l 0).length = 1 := rfl
    refine rW_loopQ (σ := Nat × Nat) q2 [16, 17] (fun x tm => tm 4 = .slice (some ⟨x.2, 0, none⟩) (pkT l x.1).length 1 ∧ tm 18 = .int .i64 x.1 ∧ x.1 ≤ n) (fun x L => [.own (.box x.2 (bts (pkT l x.1)))]) (fun x => n - x.1) (0, H1.length) ⟨rfl, rfl, Nat.zero_le _⟩ rfl ?_
    rintro ⟨i, bo⟩ tm1 H3 ⟨lv1, lv2, -⟩ ⟨k4, ki, hi⟩ q3
    simp -implicitDefEqProofs only [kz, kk0, kk1, kk2, kk3, ↓two_true, ↓two_false, mkv, aggAt, Nat.reduceLeDiff, Nat.reduceSub, Nat.reduceMul, implies_true, Nat.reduceEqDiff, reduceIte, Nat.reduceAdd, Nat.reduceBEq, reduceCtorEq, al63, ap24_24, bs24_1, bs24_2, bs24_5, cv3_5, fa61_0, fa61_1, fa61_2, fa63_0, fa63_1, fa63_2, fa63_3, ix27, ix58, ld3, ld58, ld63, ln27, ln58, st63] at lv1 lv2
    simp only at k4 ki hi
    simp -implicitDefEqProofs only [kz, kk0, kk1, kk2, kk3, ↓two_true, ↓two_false, mkv, aggAt, Nat.reduceLeDiff, Nat.reduceSub, Nat.reduceMul, implies_true, Nat.reduceEqDiff, reduceIte, Nat.reduceAdd, Nat.reduceBEq, reduceCtorEq, al63, ap24_24, bs24_1, bs24_2, bs24_5, cv3_5, fa61_0, fa61_1, fa61_2, fa63_0, fa63_1, fa63_2, fa63_3, ix27, ix58, ld3, ld58, ld63, ln27, ln58, st63, lv1, lv2, ki, k4]
    refine two_intro (fun u2 => ?_) (fun u2 => ?_)
    · have hlt : i < n := by have h5 := of_decide_eq_true u2; omega
      obtain ⟨b, o, cs, rfl, rfl, hrd, hle, hcell⟩ := gv (by omega)
      have x1 := hv.elemn 6 rfl hlt
      have hin : l[i]? = some (insOf ((elm 6 xs i).map (cv H))) := by rw [← hL]; exact insL_get hlt
      have hpk := pkT_succ hin
      have hio : insOk (insOf ((elm 6 xs i).map (cv H))) = true := (List.all_eq_true.1 hok) _ (List.mem_of_getElem? hin)
      have g1 := rd_ext hrd q3.ext
      have l1 : ld Try.prog 63 (o + i * 6) cs = some (.agg (elm 6 xs i).toArray) := by rw [ld63]; exact (hcell _ hlt).1
      obtain ⟨op, ia, is, io, iw, y, ex, ky, ei⟩ := all2_instr x1
      rw [ei] at hpk hio
      clear hin
      generalize elm 6 xs i = x at *
      subst ex
      obtain ⟨a5, c5, e5⟩ := ky.1.slice
      have hr : IntRow H y (rowI H y) := ky.1
      have hrl := ky.2
      generalize rowI H y = m at *
      subst e5
      have wi : IntKind.i64.wrap ((i : Int) + 1) = ((i + 1 : Nat) : Int) := IntWalk.i64_in ((i : Int) + 1) (by omega)
      have hTl := pkT_len hok (i := i)
      simp -implicitDefEqProofs only [kz, kk0, kk1, kk2, kk3, ↓two_true, ↓two_false, mkv, aggAt, Nat.reduceLeDiff, Nat.reduceSub, Nat.reduceMul, implies_true, Nat.reduceEqDiff, reduceIte, Nat.reduceAdd, Nat.reduceBEq, reduceCtorEq, al63, ap24_24, bs24_1, bs24_2, bs24_5, cv3_5, fa61_0, fa61_1, fa61_2, fa63_0, fa63_1, fa63_2, fa63_3, ix27, ix58, ld3, ld58, ld63, ln27, ln58, st63, lv1, lv2, ki, k4, Int.toNat_natCast, Nat.mul_one, g1, l1]
      refine ⟨by omega, ?_⟩
      refine st_box q3 fun H4 q4 => ?_
      simp -implicitDefEqProofs only [kz, kk0, kk1, kk2, kk3, ↓two_true, ↓two_false, mkv, aggAt, Nat.reduceLeDiff, Nat.reduceSub, Nat.reduceMul, implies_true, Nat.reduceEqDiff, reduceIte, Nat.reduceAdd, Nat.reduceBEq, reduceCtorEq, al63, ap24_24, bs24_1, bs24_2, bs24_5, cv3_5, fa61_0, fa61_1, fa61_2, fa63_0, fa63_1, fa63_2, fa63_3, ix27, ix58, ld3, ld58, ld63, ln27, ln58, st63, lv1, lv2, ki, k4, q4.rd 0 rfl]
      refine st_set q4 0 rfl fun H5 q5 => ?_
      simp only [List.set_cons_zero, List.set_cons_succ] at q5
      simp -implicitDefEqProofs only [kz, kk0, kk1, kk2, kk3, ↓two_true, ↓two_false, mkv, aggAt, Nat.reduceLeDiff, Nat.reduceSub, Nat.reduceMul, implies_true, Nat.reduceEqDiff, reduceIte, Nat.reduceAdd, Nat.reduceBEq, reduceCtorEq, al63, ap24_24, bs24_1, bs24_2, bs24_5, cv3_5, fa61_0, fa61_1, fa61_2, fa63_0, fa63_1, fa63_2, fa63_3, ix27, ix58, ld3, ld58, ld63, ln27, ln58, st63, lv1, lv2, ki, k4, q5.rd 0 rfl]
      refine st_cells q5 fun H6 q6 => ?_
      simp -implicitDefEqProofs only [kz, kk0, kk1, kk2, kk3, ↓two_true, ↓two_false, mkv, aggAt, Nat.reduceLeDiff, Nat.reduceSub, Nat.reduceMul, implies_true, Nat.reduceEqDiff, reduceIte, Nat.reduceAdd, Nat.reduceBEq, reduceCtorEq, al63, ap24_24, bs24_1, bs24_2, bs24_5, cv3_5, fa61_0, fa61_1, fa61_2, fa63_0, fa63_1, fa63_2, fa63_3, ix27, ix58, ld3, ld58, ld63, ln27, ln58, st63, lv1, lv2, ki, k4, q6.rd 1 rfl]
      refine st_appB q6 2 0 rfl rfl (bts_len.symm) rfl rfl (by decide) (by omega) fun H7 q7 => ?_
      simp only [List.set_cons_zero, List.set_cons_succ] at q7
      simp -implicitDefEqProofs only [kz, kk0, kk1, kk2, kk3, ↓two_true, ↓two_false, mkv, aggAt, Nat.reduceLeDiff, Nat.reduceSub, Nat.reduceMul, implies_true, Nat.reduceEqDiff, reduceIte, Nat.reduceAdd, Nat.reduceBEq, reduceCtorEq, al63, ap24_24, bs24_1, bs24_2, bs24_5, cv3_5, fa61_0, fa61_1, fa61_2, fa63_0, fa63_1, fa63_2, fa63_3, ix27, ix58, ld3, ld58, ld63, ln27, ln58, st63, lv1, lv2, ki, k4, q7.rd 1 rfl]
      have e5 : bts (pkT l i) ++ [Value.int .u8 (IntKind.u8.wrap op), .int .u8 (IntKind.u8.wrap ia), .int .u8 (IntKind.u8.wrap is), .int .u8 (IntKind.u8.wrap io), .int .u8 (IntKind.u8.wrap iw)] = bts (pkT l i ++ [op, ia, is, io, iw].map IntKind.u8.wrap) := by rw [← bts_app]; rfl
      rw [e5] at q7
      have hWl : (pkT l i ++ [op, ia, is, io, iw].map IntKind.u8.wrap).length = (pkT l i).length + 5 := by simp
      by_cases hop : op = 1
      · subst hop
        have hnm := insOk_nums hio rfl
        simp only [numsOk, inB, Bool.and_eq_true, decide_eq_true_eq] at hnm
        obtain ⟨⟨hm1, hm2⟩, hnum⟩ := hnm
        try simp only at hm1 hm2 hnum
        have hsh := fun (t : TypeId) (p q : Operand) => bin_shr (P := Try.prog) (t := t) (x := p) (y := q) (k := .i64) (k' := .u64) (a := (m.length : Int)) (b := (8 : Int)) (by omega)
        simp only [show (2 : Int) ^ (min ((8 : Int).toNat) IntKind.i64.bits) = 256 by decide] at hsh
        simp -implicitDefEqProofs only [kz, kk0, kk1, kk2, kk3, ↓two_true, ↓two_false, mkv, aggAt, Nat.reduceLeDiff, Nat.reduceSub, Nat.reduceMul, implies_true, Nat.reduceEqDiff, reduceIte, Nat.reduceAdd, Nat.reduceBEq, reduceCtorEq, al63, ap24_24, bs24_1, bs24_2, bs24_5, cv3_5, fa61_0, fa61_1, fa61_2, fa63_0, fa63_1, fa63_2, fa63_3, ix27, ix58, ld3, ld58, ld63, ln27, ln58, st63, lv1, lv2, ki, k4, q7.rd 1 rfl, Int.reduceBEq, hsh]
        refine st_cells q7 fun H8 q8 => ?_
        simp -implicitDefEqProofs only [kz, kk0, kk1, kk2, kk3, ↓two_true, ↓two_false, mkv, aggAt, Nat.reduceLeDiff, Nat.reduceSub, Nat.reduceMul, implies_true, Nat.reduceEqDiff, reduceIte, Nat.reduceAdd, Nat.reduceBEq, reduceCtorEq, al63, ap24_24, bs24_1, bs24_2, bs24_5, cv3_5, fa61_0, fa61_1, fa61_2, fa63_0, fa63_1, fa63_2, fa63_3, ix27, ix58, ld3, ld58, ld63, ln27, ln58, st63, lv1, lv2, ki, k4, q8.rd 2 rfl]
        refine st_appB q8 3 0 rfl rfl (by rw [bts_len, hWl]) rfl rfl (by decide) (by omega) fun H9 q9 => ?_
        simp only [List.set_cons_zero, List.set_cons_succ] at q9
        simp -implicitDefEqProofs only [kz, kk0, kk1, kk2, kk3, ↓two_true, ↓two_false, mkv, aggAt, Nat.reduceLeDiff, Nat.reduceSub, Nat.reduceMul, implies_true, Nat.reduceEqDiff, reduceIte, Nat.reduceAdd, Nat.reduceBEq, reduceCtorEq, al63, ap24_24, bs24_1, bs24_2, bs24_5, cv3_5, fa61_0, fa61_1, fa61_2, fa63_0, fa63_1, fa63_2, fa63_3, ix27, ix58, ld3, ld58, ld63, ln27, ln58, st63, lv1, lv2, ki, k4, q9.rd 2 rfl]
        have e7 : bts (pkT l i ++ [1, ia, is, io, iw].map IntKind.u8.wrap) ++ [Value.int .u8 (IntKind.u8.wrap (m.length : Int)), .int .u8 (IntKind.u8.wrap ((m.length : Int).fdiv 256))] = bts (pkT l i ++ [1, ia, is, io, iw].map IntKind.u8.wrap ++ [IntKind.u8.wrap (m.length : Int), IntKind.u8.wrap ((m.length : Int) / 256)]) := by
          rw [Int.fdiv_eq_ediv_of_nonneg _ (by decide)]
          simp only [← bts_app]
          rfl
        rw [e7] at q9
        have hpI : pkI ⟨1, ia, is, io, iw, m⟩ = [1, ia, is, io, iw].map IntKind.u8.wrap ++ [IntKind.u8.wrap (m.length : Int), IntKind.u8.wrap ((m.length : Int) / 256)] ++ m.flatMap (fun n => le8 (n + 1000000000000)) := by
          unfold pkI; rw [if_pos rfl, List.append_assoc]
        rw [hpI] at hpk
        rw [← List.append_assoc, ← List.append_assoc] at hpk
        generalize hW : pkT l i ++ [1, ia, is, io, iw].map IntKind.u8.wrap ++ [IntKind.u8.wrap (m.length : Int), IntKind.u8.wrap ((m.length : Int) / 256)] = W at *
        have hW2 : W.length = (pkT l i).length + 5 + 2 := by rw [← hW]; simp
        clear hW e7 e5 hpI hsh
        refine rW_loopQ (σ := Nat × Nat) q9 [16, 17, 18, 59, 60] (fun x tm => tm 4 = .slice (some ⟨x.2, 0, none⟩) (W.length + x.1 * 8) 1 ∧ tm 61 = .int .i64 x.1 ∧ x.1 ≤ m.length) (fun x L => L.set 3 (.own (.box x.2 (bts (W ++ (m.take x.1).flatMap fun n => le8 (n + 1000000000000)))))) (fun x => m.length - x.1) (0, H8.length) ⟨by rw [hW2]; rfl, rfl, Nat.zero_le _⟩ (by simp only [List.take_zero, List.flatMap_nil, List.append_nil]; rfl) ?_
        rintro ⟨k, b2⟩ tm2 H10 ⟨mv1, mv2, mv3, mv4, mv5, -⟩ ⟨n4, nk, hkm⟩ q10
        simp -implicitDefEqProofs only [kz, kk0, kk1, kk2, kk3, ↓two_true, ↓two_false, mkv, aggAt, Nat.reduceLeDiff, Nat.reduceSub, Nat.reduceMul, implies_true, Nat.reduceEqDiff, reduceIte, Nat.reduceAdd, Nat.reduceBEq, reduceCtorEq, al63, ap24_24, bs24_1, bs24_2, bs24_5, cv3_5, fa61_0, fa61_1, fa61_2, fa63_0, fa63_1, fa63_2, fa63_3, ix27, ix58, ld3, ld58, ld63, ln27, ln58, st63, lv1, lv2, ki] at mv1 mv2 mv3 mv4 mv5
        simp only at n4 nk hkm
        simp only [List.set_cons_zero, List.set_cons_succ] at q10
        simp -implicitDefEqProofs only [kz, kk0, kk1, kk2, kk3, ↓two_true, ↓two_false, mkv, aggAt, Nat.reduceLeDiff, Nat.reduceSub, Nat.reduceMul, implies_true, Nat.reduceEqDiff, reduceIte, Nat.reduceAdd, Nat.reduceBEq, reduceCtorEq, al63, ap24_24, bs24_1, bs24_2, bs24_5, cv3_5, fa61_0, fa61_1, fa61_2, fa63_0, fa63_1, fa63_2, fa63_3, ix27, ix58, ld3, ld58, ld63, ln27, ln58, st63, mv1, mv2, mv3, mv4, mv5, n4, nk]
        refine two_intro (fun u3 => ?_) (fun u3 => ?_)
        · have hk2 : k < m.length := by have h5 := of_decide_eq_true u3; omega
          have wk : IntKind.i64.wrap ((k : Int) + 1) = ((k + 1 : Nat) : Int) := IntWalk.i64_in ((k : Int) + 1) (by omega)
          obtain ⟨a3, c3, e3, g3⟩ := (hr.ext q10.ext).op
          obtain ⟨b3, o3, cs3, rfl, rfl, fr3, -, fc3⟩ := g3 (by omega)
          simp only [Value.slice.injEq, true_and] at e3
          obtain ⟨rfl, rfl⟩ := e3
          have fc3 := fc3 k hk2
          have hnk := numOk_iff.1 (List.all_eq_true.1 hnum _ (List.getElem_mem hk2))
          simp -implicitDefEqProofs only [kz, kk0, kk1, kk2, kk3, ↓two_true, ↓two_false, mkv, aggAt, Nat.reduceLeDiff, Nat.reduceSub, Nat.reduceMul, implies_true, Nat.reduceEqDiff, reduceIte, Nat.reduceAdd, Nat.reduceBEq, reduceCtorEq, al63, ap24_24, bs24_1, bs24_2, bs24_5, cv3_5, fa61_0, fa61_1, fa61_2, fa63_0, fa63_1, fa63_2, fa63_3, ix27, ix58, ld3, ld58, ld63, ln27, ln58, st63, mv1, mv2, mv3, mv4, mv5, n4, nk, Int.toNat_natCast, Nat.mul_one, fr3, fc3]
          refine ⟨by omega, ?_⟩
          have hlW : (W ++ (m.take k).flatMap fun n => le8 (n + 1000000000000)).length = W.length + k * 8 := by rw [List.length_append, le8s_len, List.length_take, Nat.min_eq_left (by omega)]
          refine (putNum_ok (q10.bx 3 rfl) hlW.symm (by omega) ⟨by omega, by omega⟩).mono ?_
          rintro _ H11 ⟨b4, rfl, ha4, hb4⟩
          have q11 := q10.pushB 3 rfl ha4 hb4
          simp only [List.set_cons_zero, List.set_cons_succ] at q11
          simp -implicitDefEqProofs only [kz, kk0, kk1, kk2, kk3, ↓two_true, ↓two_false, mkv, aggAt, Nat.reduceLeDiff, Nat.reduceSub, Nat.reduceMul, implies_true, Nat.reduceEqDiff, reduceIte, Nat.reduceAdd, Nat.reduceBEq, reduceCtorEq, al63, ap24_24, bs24_1, bs24_2, bs24_5, cv3_5, fa61_0, fa61_1, fa61_2, fa63_0, fa63_1, fa63_2, fa63_3, ix27, ix58, ld3, ld58, ld63, ln27, ln58, st63, mv1, mv2, mv3, mv4, mv5, n4, nk, wk]
          refine ⟨(k + 1, b4), by simp only; omega, ⟨rfl, rfl, rfl, rfl, rfl, trivial⟩, ⟨?_, rfl, hk2⟩, ?_⟩
          · simp only [Nat.add_mul, Nat.one_mul]; rfl
          · simp only [List.set_cons_zero, List.set_cons_succ]
            rw [List.take_succ_eq_append_getElem hk2, List.flatMap_append, List.flatMap_cons, List.flatMap_nil, List.append_nil, ← List.append_assoc]
            exact q11
        · have hkl : k = m.length := by have h5 := of_decide_eq_false u3; omega
          subst hkl
          rw [List.take_length] at q10
          have hlW : (W ++ m.flatMap fun n => le8 (n + 1000000000000)).length = W.length + m.length * 8 := by rw [List.length_append, le8s_len]
          simp -implicitDefEqProofs only [kz, kk0, kk1, kk2, kk3, ↓two_true, ↓two_false, mkv, aggAt, Nat.reduceLeDiff, Nat.reduceSub, Nat.reduceMul, implies_true, Nat.reduceEqDiff, reduceIte, Nat.reduceAdd, Nat.reduceBEq, reduceCtorEq, al63, ap24_24, bs24_1, bs24_2, bs24_5, cv3_5, fa61_0, fa61_1, fa61_2, fa63_0, fa63_1, fa63_2, fa63_3, ix27, ix58, ld3, ld58, ld63, ln27, ln58, st63, mv1, mv2, mv3, mv4, mv5, n4, nk, wi]
          refine ⟨(i + 1, b2), by simp only; omega, ⟨?_, ?_, trivial⟩, ⟨?_, rfl, hlt⟩, ?_⟩
          · first | rfl | exact mv1.trans lv1.symm
          · first | rfl | exact mv2.trans lv2.symm
          · rw [hpk, hlW]
          · simp only
            rw [hpk]
            exact q10.pick [3] _ rfl (by decide)
      · have ho1 : (op == 1) = false := beq_eq_false_iff_ne.2 hop
        simp -implicitDefEqProofs only [kz, kk0, kk1, kk2, kk3, ↓two_true, ↓two_false, mkv, aggAt, Nat.reduceLeDiff, Nat.reduceSub, Nat.reduceMul, implies_true, Nat.reduceEqDiff, reduceIte, Nat.reduceAdd, Nat.reduceBEq, reduceCtorEq, al63, ap24_24, bs24_1, bs24_2, bs24_5, cv3_5, fa61_0, fa61_1, fa61_2, fa63_0, fa63_1, fa63_2, fa63_3, ix27, ix58, ld3, ld58, ld63, ln27, ln58, st63, lv1, lv2, ki, k4, ho1, wi]
        have hpI : pkI ⟨op, ia, is, io, iw, m⟩ = [op, ia, is, io, iw].map IntKind.u8.wrap := by unfold pkI; rw [if_neg hop, List.append_nil]
        refine ⟨(i + 1, H6.length), by simp only; omega, ⟨rfl, rfl, trivial⟩, ⟨?_, rfl, hlt⟩, ?_⟩
        · rw [hpk, hpI, hWl]
        · simp only
          rw [hpk, hpI]
          exact q7.pick [2] _ rfl (by decide)
    · have hil : i = n := by have h5 := of_decide_eq_false u2; omega
      subst hil
      have hpg : pkT l l.length = pkG l := by unfold pkT pkG; rw [List.take_length]
      rw [hll] at hpg
      rw [hpg] at q3
      rw [hk, hpg]
      have hA : pkA l = pkG l := by unfold pkA; rw [if_pos hk]
      rw [hA]
      exact ⟨⟨_, rfl, .inr ⟨bo, rfl, q3.bxlt 0 rfl, q3.bx 0 rfl⟩⟩, q3.ext⟩

set_option maxHeartbeats 4000000 in
theorem specPack_ok {H : AH} {v : Value} {n : Nat} {xs : List Value} (hv : FRow H v kInstr n xs) (hl : n ≤ 1048576) :
    CallsA Try.prog 9 #[v] H fun r H' => (∃ w, r = .tuple #[w, .bool (cdOk (insL (cvs H xs) n))] ∧ ByNew H H' w (pkA (insL (cvs H xs) n))) ∧ ∃ K, H' = H ++ K := by
  have hc := specCodeOk_ok hv hl
  obtain ⟨a, c, rfl, gv⟩ := hv.opn 6 rfl
  generalize hL : insL (cvs H xs) n = l at *
  have hll : l.length = n := by rw [← hL, insL_len]
  have q := (LX.nil (H := H))
  refine w9 ?_
  unfold k9
  simp -implicitDefEqProofs only [kz, kk0, kk1, kk2, kk3, ↓two_true, ↓two_false, mkv, aggAt, Nat.reduceLeDiff, Nat.reduceSub, Nat.reduceMul, implies_true, Nat.reduceEqDiff, reduceIte, Nat.reduceAdd, Nat.reduceBEq, reduceCtorEq, al63, ap24_24, bs24_0, bs24_1, bs24_2, bs24_5, cv3_5, fa61_0, fa61_1, fa61_2, fa63_0, fa63_1, fa63_2, fa63_3, ix27, ix58, ld3, ld58, ld63, ln27, ln58, st63]
  refine hc.mono ?_
  rintro _ H1 ⟨rfl, hK1⟩
  have q1 := q.extd hK1
  simp -implicitDefEqProofs only [kz, kk0, kk1, kk2, kk3, ↓two_true, ↓two_false, mkv, aggAt, Nat.reduceLeDiff, Nat.reduceSub, Nat.reduceMul, implies_true, Nat.reduceEqDiff, reduceIte, Nat.reduceAdd, Nat.reduceBEq, reduceCtorEq, al63, ap24_24, bs24_0, bs24_1, bs24_2, bs24_5, cv3_5, fa61_0, fa61_1, fa61_2, fa63_0, fa63_1, fa63_2, fa63_3, ix27, ix58, ld3, ld58, ld63, ln27, ln58, st63]
  refine two_intro (fun u1 => ?_) (fun u1 => ?_)
  · have hk : cdOk l = false := by simpa using u1
    rw [hk]
    refine st_cells q1 fun H2 q2 => ?_
    try simp -implicitDefEqProofs only [kz, kk0, kk1, kk2, kk3, ↓two_true, ↓two_false, mkv, aggAt, Nat.reduceLeDiff, Nat.reduceSub, Nat.reduceMul, implies_true, Nat.reduceEqDiff, reduceIte, Nat.reduceAdd, Nat.reduceBEq, reduceCtorEq, al63, ap24_24, bs24_0, bs24_1, bs24_2, bs24_5, cv3_5, fa61_0, fa61_1, fa61_2, fa63_0, fa63_1, fa63_2, fa63_3, ix27, ix58, ld3, ld58, ld63, ln27, ln58, st63]
    have hA : pkA l = [] := by unfold pkA; rw [if_neg (by rw [hk]; decide)]
    rw [hA]
    exact ⟨⟨_, rfl, .inr ⟨_, rfl, ext_len hK1, q2.bx 0 rfl⟩⟩, q2.ext⟩
  · have hk : cdOk l = true := by simpa using u1
    have hk' := hk
    unfold cdOk at hk'
    simp only [Bool.and_eq_true] at hk'
    have hb2 : 1 ≤ n ∧ n ≤ 60 := by have := hk'.1; rw [hll] at this; simp [inB] at this; omega
    have hok := hk'.2.1
    clear hk'
    try simp -implicitDefEqProofs only [kz, kk0, kk1, kk2, kk3, ↓two_true, ↓two_false, mkv, aggAt, Nat.reduceLeDiff, Nat.reduceSub, Nat.reduceMul, implies_true, Nat.reduceEqDiff, reduceIte, Nat.reduceAdd, Nat.reduceBEq, reduceCtorEq, al63, ap24_24, bs24_0, bs24_1, bs24_2, bs24_5, cv3_5, fa61_0, fa61_1, fa61_2, fa63_0, fa63_1, fa63_2, fa63_3, ix27, ix58, ld3, ld58, ld63, ln27, ln58, st63]
    refine st_cells q1 fun H2 q2 => ?_
    simp -implicitDefEqProofs only [kz, kk0, kk1, kk2, kk3, ↓two_true, ↓two_false, mkv, aggAt, Nat.reduceLeDiff, Nat.reduceSub, Nat.reduceMul, implies_true, Nat.reduceEqDiff, reduceIte, Nat.reduceAdd, Nat.reduceBEq, reduceCtorEq, al63, ap24_24, bs24_0, bs24_1, bs24_2, bs24_5, cv3_5, fa61_0, fa61_1, fa61_2, fa63_0, fa63_1, fa63_2, fa63_3, ix27, ix58, ld3, ld58, ld63, ln27, ln58, st63]
    have e0 : [Value.int .u8 (IntKind.u8.wrap (n : Int))] = bts (pkT l 0) := by rw [← hll]; rfl
    rw [e0] at q2
    refine rW_loopQ (σ := Nat × Nat) q2 [0] (fun x tm => tm 4 = .slice (some ⟨x.2, 0, none⟩) (pkT l x.1).length 1 ∧ tm 5 = .int .i64 x.1 ∧ x.1 ≤ n) (fun x L => [.own (.box x.2 (bts (pkT l x.1)))]) (fun x => n - x.1) (0, H1.length) ⟨rfl, rfl, Nat.zero_le _⟩ rfl ?_
    rintro ⟨i, bo⟩ tm1 H3 ⟨lv1, -⟩ ⟨k4, ki, hi⟩ q3
    simp -implicitDefEqProofs only [kz, kk0, kk1, kk2, kk3, ↓two_true, ↓two_false, mkv, aggAt, Nat.reduceLeDiff, Nat.reduceSub, Nat.reduceMul, implies_true, Nat.reduceEqDiff, reduceIte, Nat.reduceAdd, Nat.reduceBEq, reduceCtorEq, al63, ap24_24, bs24_0, bs24_1, bs24_2, bs24_5, cv3_5, fa61_0, fa61_1, fa61_2, fa63_0, fa63_1, fa63_2, fa63_3, ix27, ix58, ld3, ld58, ld63, ln27, ln58, st63] at lv1
    simp only at k4 ki hi
    simp -implicitDefEqProofs only [kz, kk0, kk1, kk2, kk3, ↓two_true, ↓two_false, mkv, aggAt, Nat.reduceLeDiff, Nat.reduceSub, Nat.reduceMul, implies_true, Nat.reduceEqDiff, reduceIte, Nat.reduceAdd, Nat.reduceBEq, reduceCtorEq, al63, ap24_24, bs24_0, bs24_1, bs24_2, bs24_5, cv3_5, fa61_0, fa61_1, fa61_2, fa63_0, fa63_1, fa63_2, fa63_3, ix27, ix58, ld3, ld58, ld63, ln27, ln58, st63, lv1, ki, k4]
    refine two_intro (fun u2 => ?_) (fun u2 => ?_)
    · have hlt : i < n := by have h5 := of_decide_eq_true u2; omega
      obtain ⟨b, o, cs, rfl, rfl, hrd, hle, hcell⟩ := gv (by omega)
      have x1 := hv.elemn 6 rfl hlt
      have hin : l[i]? = some (insOf ((elm 6 xs i).map (cv H))) := by rw [← hL]; exact insL_get hlt
      have hpk := pkT_succ hin
      have hio : insOk (insOf ((elm 6 xs i).map (cv H))) = true := (List.all_eq_true.1 hok) _ (List.mem_of_getElem? hin)
      have g1 := rd_ext hrd q3.ext
      have l1 : ld Try.prog 63 (o + i * 6) cs = some (.agg (elm 6 xs i).toArray) := by rw [ld63]; exact (hcell _ hlt).1
      obtain ⟨op, ia, is, io, iw, y, ex, ky, ei⟩ := all2_instr x1
      rw [ei] at hpk hio
      clear hin
      generalize elm 6 xs i = x at *
      subst ex
      obtain ⟨a5, c5, e5⟩ := ky.1.slice
      have hr : IntRow H y (rowI H y) := ky.1
      have hrl := ky.2
      generalize rowI H y = m at *
      subst e5
      have wi : IntKind.i64.wrap ((i : Int) + 1) = ((i + 1 : Nat) : Int) := IntWalk.i64_in ((i : Int) + 1) (by omega)
      have hTl := pkT_len hok (i := i)
      simp -implicitDefEqProofs only [kz, kk0, kk1, kk2, kk3, ↓two_true, ↓two_false, mkv, aggAt, Nat.reduceLeDiff, Nat.reduceSub, Nat.reduceMul, implies_true, Nat.reduceEqDiff, reduceIte, Nat.reduceAdd, Nat.reduceBEq, reduceCtorEq, al63, ap24_24, bs24_0, bs24_1, bs24_2, bs24_5, cv3_5, fa61_0, fa61_1, fa61_2, fa63_0, fa63_1, fa63_2, fa63_3, ix27, ix58, ld3, ld58, ld63, ln27, ln58, st63, lv1, ki, k4, Int.toNat_natCast, Nat.mul_one, g1, l1]
      refine ⟨by omega, ?_⟩
      refine st_box q3 fun H4 q4 => ?_
      simp -implicitDefEqProofs only [kz, kk0, kk1, kk2, kk3, ↓two_true, ↓two_false, mkv, aggAt, Nat.reduceLeDiff, Nat.reduceSub, Nat.reduceMul, implies_true, Nat.reduceEqDiff, reduceIte, Nat.reduceAdd, Nat.reduceBEq, reduceCtorEq, al63, ap24_24, bs24_0, bs24_1, bs24_2, bs24_5, cv3_5, fa61_0, fa61_1, fa61_2, fa63_0, fa63_1, fa63_2, fa63_3, ix27, ix58, ld3, ld58, ld63, ln27, ln58, st63, lv1, ki, k4, q4.rd 0 rfl]
      refine st_set q4 0 rfl fun H5 q5 => ?_
      simp only [List.set_cons_zero, List.set_cons_succ] at q5
      simp -implicitDefEqProofs only [kz, kk0, kk1, kk2, kk3, ↓two_true, ↓two_false, mkv, aggAt, Nat.reduceLeDiff, Nat.reduceSub, Nat.reduceMul, implies_true, Nat.reduceEqDiff, reduceIte, Nat.reduceAdd, Nat.reduceBEq, reduceCtorEq, al63, ap24_24, bs24_0, bs24_1, bs24_2, bs24_5, cv3_5, fa61_0, fa61_1, fa61_2, fa63_0, fa63_1, fa63_2, fa63_3, ix27, ix58, ld3, ld58, ld63, ln27, ln58, st63, lv1, ki, k4, q5.rd 0 rfl]
      refine st_cells q5 fun H6 q6 => ?_
      simp -implicitDefEqProofs only [kz, kk0, kk1, kk2, kk3, ↓two_true, ↓two_false, mkv, aggAt, Nat.reduceLeDiff, Nat.reduceSub, Nat.reduceMul, implies_true, Nat.reduceEqDiff, reduceIte, Nat.reduceAdd, Nat.reduceBEq, reduceCtorEq, al63, ap24_24, bs24_0, bs24_1, bs24_2, bs24_5, cv3_5, fa61_0, fa61_1, fa61_2, fa63_0, fa63_1, fa63_2, fa63_3, ix27, ix58, ld3, ld58, ld63, ln27, ln58, st63, lv1, ki, k4, q6.rd 1 rfl]
      refine st_appB q6 2 0 rfl rfl (bts_len.symm) rfl rfl (by decide) (by omega) fun H7 q7 => ?_
      simp only [List.set_cons_zero, List.set_cons_succ] at q7
      simp -implicitDefEqProofs only [kz, kk0, kk1, kk2, kk3, ↓two_true, ↓two_false, mkv, aggAt, Nat.reduceLeDiff, Nat.reduceSub, Nat.reduceMul, implies_true, Nat.reduceEqDiff, reduceIte, Nat.reduceAdd, Nat.reduceBEq, reduceCtorEq, al63, ap24_24, bs24_0, bs24_1, bs24_2, bs24_5, cv3_5, fa61_0, fa61_1, fa61_2, fa63_0, fa63_1, fa63_2, fa63_3, ix27, ix58, ld3, ld58, ld63, ln27, ln58, st63, lv1, ki, k4, q7.rd 1 rfl]
      have e5 : bts (pkT l i) ++ [Value.int .u8 (IntKind.u8.wrap op), .int .u8 (IntKind.u8.wrap ia), .int .u8 (IntKind.u8.wrap is), .int .u8 (IntKind.u8.wrap io), .int .u8 (IntKind.u8.wrap iw)] = bts (pkT l i ++ [op, ia, is, io, iw].map IntKind.u8.wrap) := by rw [← bts_app]; rfl
      rw [e5] at q7
      have hWl : (pkT l i ++ [op, ia, is, io, iw].map IntKind.u8.wrap).length = (pkT l i).length + 5 := by simp
      by_cases hop : op = 1
      · subst hop
        have hnm := insOk_nums hio rfl
        simp only [numsOk, inB, Bool.and_eq_true, decide_eq_true_eq] at hnm
        obtain ⟨⟨hm1, hm2⟩, hnum⟩ := hnm
        try simp only at hm1 hm2 hnum
        have hrm : (m.length : Int).tmod 256 = (m.length : Int) % 256 := Int.tmod_eq_emod_of_nonneg (by omega)
        have hqu : IntKind.i64.wrap ((m.length : Int).tdiv 256) = (m.length : Int) / 256 := by rw [Int.tdiv_eq_ediv_of_nonneg (by omega), IntWalk.i64_in _ (by omega)]
        have n1 : ((1 : Int) != 1) = false := by decide
        simp -implicitDefEqProofs only [kz, kk0, kk1, kk2, kk3, ↓two_true, ↓two_false, mkv, aggAt, Nat.reduceLeDiff, Nat.reduceSub, Nat.reduceMul, implies_true, Nat.reduceEqDiff, reduceIte, Nat.reduceAdd, Nat.reduceBEq, reduceCtorEq, al63, ap24_24, bs24_0, bs24_1, bs24_2, bs24_5, cv3_5, fa61_0, fa61_1, fa61_2, fa63_0, fa63_1, fa63_2, fa63_3, ix27, ix58, ld3, ld58, ld63, ln27, ln58, st63, lv1, ki, k4, q7.rd 1 rfl, n1, bin_rem (show (256 : Int) ≠ 0 by decide), bin_quo (show (256 : Int) ≠ 0 by decide), hrm, hqu]
        refine st_cells q7 fun H8 q8 => ?_
        simp -implicitDefEqProofs only [kz, kk0, kk1, kk2, kk3, ↓two_true, ↓two_false, mkv, aggAt, Nat.reduceLeDiff, Nat.reduceSub, Nat.reduceMul, implies_true, Nat.reduceEqDiff, reduceIte, Nat.reduceAdd, Nat.reduceBEq, reduceCtorEq, al63, ap24_24, bs24_0, bs24_1, bs24_2, bs24_5, cv3_5, fa61_0, fa61_1, fa61_2, fa63_0, fa63_1, fa63_2, fa63_3, ix27, ix58, ld3, ld58, ld63, ln27, ln58, st63, lv1, ki, k4, q8.rd 2 rfl]
        refine st_appB q8 3 0 rfl rfl (by rw [bts_len, hWl]) rfl rfl (by decide) (by omega) fun H9 q9 => ?_
        simp only [List.set_cons_zero, List.set_cons_succ] at q9
        simp -implicitDefEqProofs only [kz, kk0, kk1, kk2, kk3, ↓two_true, ↓two_false, mkv, aggAt, Nat.reduceLeDiff, Nat.reduceSub, Nat.reduceMul, implies_true, Nat.reduceEqDiff, reduceIte, Nat.reduceAdd, Nat.reduceBEq, reduceCtorEq, al63, ap24_24, bs24_0, bs24_1, bs24_2, bs24_5, cv3_5, fa61_0, fa61_1, fa61_2, fa63_0, fa63_1, fa63_2, fa63_3, ix27, ix58, ld3, ld58, ld63, ln27, ln58, st63, lv1, ki, k4, q9.rd 2 rfl]
        have wmod : IntKind.u8.wrap ((m.length : Int) % 256) = IntKind.u8.wrap (m.length : Int) := by
          simp only [IntKind.wrap]
          rw [show (m.length : Int) % 256 % 2 ^ IntKind.u8.bits = (m.length : Int) % 2 ^ IntKind.u8.bits from (by show (m.length : Int) % 256 % 256 = (m.length : Int) % 256; omega)]
        have e7 : bts (pkT l i ++ [1, ia, is, io, iw].map IntKind.u8.wrap) ++ [Value.int .u8 (IntKind.u8.wrap ((m.length : Int) % 256)), .int .u8 (IntKind.u8.wrap ((m.length : Int) / 256))] = bts (pkT l i ++ [1, ia, is, io, iw].map IntKind.u8.wrap ++ [IntKind.u8.wrap (m.length : Int), IntKind.u8.wrap ((m.length : Int) / 256)]) := by
          rw [wmod]
          simp only [← bts_app]
          rfl
        rw [e7] at q9
        have hpI : pkI ⟨1, ia, is, io, iw, m⟩ = [1, ia, is, io, iw].map IntKind.u8.wrap ++ [IntKind.u8.wrap (m.length : Int), IntKind.u8.wrap ((m.length : Int) / 256)] ++ m.flatMap (fun n => le8 (n + 1000000000000)) := by
          unfold pkI; rw [if_pos rfl, List.append_assoc]
        rw [hpI] at hpk
        rw [← List.append_assoc, ← List.append_assoc] at hpk
        generalize hW : pkT l i ++ [1, ia, is, io, iw].map IntKind.u8.wrap ++ [IntKind.u8.wrap (m.length : Int), IntKind.u8.wrap ((m.length : Int) / 256)] = W at *
        have hW2 : W.length = (pkT l i).length + 5 + 2 := by rw [← hW]; simp
        clear hW e7 e5 hpI wmod hqu hrm
        refine rW_loopQ (σ := Nat × Nat) q9 [0, 5, 6] (fun x tm => tm 4 = .slice (some ⟨x.2, 0, none⟩) (W.length + x.1 * 8) 1 ∧ tm 7 = .int .i64 x.1 ∧ x.1 ≤ m.length) (fun x L => L.set 3 (.own (.box x.2 (bts (W ++ (m.take x.1).flatMap fun n => le8 (n + 1000000000000)))))) (fun x => m.length - x.1) (0, H8.length) ⟨by rw [hW2]; rfl, rfl, Nat.zero_le _⟩ (by simp only [List.take_zero, List.flatMap_nil, List.append_nil]; rfl) ?_
        rintro ⟨k, b2⟩ tm2 H10 ⟨mv1, mv2, mv3, -⟩ ⟨n4, nk, hkm⟩ q10
        simp -implicitDefEqProofs only [kz, kk0, kk1, kk2, kk3, ↓two_true, ↓two_false, mkv, aggAt, Nat.reduceLeDiff, Nat.reduceSub, Nat.reduceMul, implies_true, Nat.reduceEqDiff, reduceIte, Nat.reduceAdd, Nat.reduceBEq, reduceCtorEq, al63, ap24_24, bs24_0, bs24_1, bs24_2, bs24_5, cv3_5, fa61_0, fa61_1, fa61_2, fa63_0, fa63_1, fa63_2, fa63_3, ix27, ix58, ld3, ld58, ld63, ln27, ln58, st63, lv1, ki] at mv1 mv2 mv3
        simp only at n4 nk hkm
        simp only [List.set_cons_zero, List.set_cons_succ] at q10
        simp -implicitDefEqProofs only [kz, kk0, kk1, kk2, kk3, ↓two_true, ↓two_false, mkv, aggAt, Nat.reduceLeDiff, Nat.reduceSub, Nat.reduceMul, implies_true, Nat.reduceEqDiff, reduceIte, Nat.reduceAdd, Nat.reduceBEq, reduceCtorEq, al63, ap24_24, bs24_0, bs24_1, bs24_2, bs24_5, cv3_5, fa61_0, fa61_1, fa61_2, fa63_0, fa63_1, fa63_2, fa63_3, ix27, ix58, ld3, ld58, ld63, ln27, ln58, st63, mv1, mv2, mv3, n4, nk, q10.rd 2 rfl]
        refine two_intro (fun u3 => ?_) (fun u3 => ?_)
        · have hk2 : k < m.length := by have h5 := of_decide_eq_true u3; omega
          have wk : IntKind.i64.wrap ((k : Int) + 1) = ((k + 1 : Nat) : Int) := IntWalk.i64_in ((k : Int) + 1) (by omega)
          obtain ⟨a3, c3, e3, g3⟩ := (hr.ext q10.ext).op
          obtain ⟨b3, o3, cs3, rfl, rfl, fr3, -, fc3⟩ := g3 (by omega)
          simp only [Value.slice.injEq, true_and] at e3
          obtain ⟨rfl, rfl⟩ := e3
          have fc3 := fc3 k hk2
          have hnk := numOk_iff.1 (List.all_eq_true.1 hnum _ (List.getElem_mem hk2))
          have wx : IntKind.i64.wrap (m[k] + 1000000000000) = m[k] + 1000000000000 := IntWalk.i64_in _ (by omega)
          simp -implicitDefEqProofs only [kz, kk0, kk1, kk2, kk3, ↓two_true, ↓two_false, mkv, aggAt, Nat.reduceLeDiff, Nat.reduceSub, Nat.reduceMul, implies_true, Nat.reduceEqDiff, reduceIte, Nat.reduceAdd, Nat.reduceBEq, reduceCtorEq, al63, ap24_24, bs24_0, bs24_1, bs24_2, bs24_5, cv3_5, fa61_0, fa61_1, fa61_2, fa63_0, fa63_1, fa63_2, fa63_3, ix27, ix58, ld3, ld58, ld63, ln27, ln58, st63, mv1, mv2, mv3, n4, nk, q10.rd 2 rfl, Int.toNat_natCast, Nat.mul_one, fr3, fc3, wx]
          refine ⟨by omega, ?_⟩
          generalize hU : (W ++ (m.take k).flatMap fun n => le8 (n + 1000000000000)) = U at *
          have hlU : U.length = W.length + k * 8 := by rw [← hU, List.length_append, le8s_len, List.length_take, Nat.min_eq_left (by omega)]
          refine rW_loopQ (σ := Nat × Nat) q10 [0, 5, 6, 7, 8] (fun x tm => tm 4 = .slice (some ⟨x.2, 0, none⟩) (W.length + k * 8 + x.1) 1 ∧ tm 9 = .int .i64 x.1 ∧ x.1 ≤ 8) (fun x L => L.set 3 (.own (.box x.2 (bts (U ++ (le8 (m[k] + 1000000000000)).take x.1))))) (fun x => 8 - x.1) (0, b2) ⟨by first | rfl | exact n4, rfl, Nat.zero_le _⟩ (by simp only [List.take_zero, List.append_nil]; rfl) ?_
          rintro ⟨j, b4⟩ tm3 H11 ⟨ov1, ov2, ov3, ov4, ov5, -⟩ ⟨p4, pj, hj⟩ q11
          simp -implicitDefEqProofs only [kz, kk0, kk1, kk2, kk3, ↓two_true, ↓two_false, mkv, aggAt, Nat.reduceLeDiff, Nat.reduceSub, Nat.reduceMul, implies_true, Nat.reduceEqDiff, reduceIte, Nat.reduceAdd, Nat.reduceBEq, reduceCtorEq, al63, ap24_24, bs24_0, bs24_1, bs24_2, bs24_5, cv3_5, fa61_0, fa61_1, fa61_2, fa63_0, fa63_1, fa63_2, fa63_3, ix27, ix58, ld3, ld58, ld63, ln27, ln58, st63, mv1, mv2, mv3, nk] at ov1 ov2 ov3 ov4 ov5
          simp only at p4 pj hj
          simp only [List.set_cons_zero, List.set_cons_succ] at q11
          simp -implicitDefEqProofs only [kz, kk0, kk1, kk2, kk3, ↓two_true, ↓two_false, mkv, aggAt, Nat.reduceLeDiff, Nat.reduceSub, Nat.reduceMul, implies_true, Nat.reduceEqDiff, reduceIte, Nat.reduceAdd, Nat.reduceBEq, reduceCtorEq, al63, ap24_24, bs24_0, bs24_1, bs24_2, bs24_5, cv3_5, fa61_0, fa61_1, fa61_2, fa63_0, fa63_1, fa63_2, fa63_3, ix27, ix58, ld3, ld58, ld63, ln27, ln58, st63, ov1, ov2, ov3, ov4, ov5, p4, pj]
          refine two_intro (fun u4 => ?_) (fun u4 => ?_)
          · have hj2 : j < 8 := by have h5 := of_decide_eq_true u4; omega
            have wj : IntKind.i64.wrap ((j : Int) + 1) = ((j + 1 : Nat) : Int) := IntWalk.i64_in ((j : Int) + 1) (by omega)
            have w8 : IntKind.i64.wrap ((8 : Int) * (j : Int)) = (8 : Int) * (j : Int) := IntWalk.i64_in _ (by omega)
            have hsh := fun (t : TypeId) (p q : Operand) => bin_shr (P := Try.prog) (t := t) (x := p) (y := q) (k := .i64) (k' := .i64) (a := m[k] + 1000000000000) (b := (8 : Int) * (j : Int)) (by omega)
            simp only [shr8 hj2] at hsh
            simp -implicitDefEqProofs only [kz, kk0, kk1, kk2, kk3, ↓two_true, ↓two_false, mkv, aggAt, Nat.reduceLeDiff, Nat.reduceSub, Nat.reduceMul, implies_true, Nat.reduceEqDiff, reduceIte, Nat.reduceAdd, Nat.reduceBEq, reduceCtorEq, al63, ap24_24, bs24_0, bs24_1, bs24_2, bs24_5, cv3_5, fa61_0, fa61_1, fa61_2, fa63_0, fa63_1, fa63_2, fa63_3, ix27, ix58, ld3, ld58, ld63, ln27, ln58, st63, ov1, ov2, ov3, ov4, ov5, p4, pj, wj, w8, hsh]
            refine st_cells q11 fun H12 q12 => ?_
            simp -implicitDefEqProofs only [kz, kk0, kk1, kk2, kk3, ↓two_true, ↓two_false, mkv, aggAt, Nat.reduceLeDiff, Nat.reduceSub, Nat.reduceMul, implies_true, Nat.reduceEqDiff, reduceIte, Nat.reduceAdd, Nat.reduceBEq, reduceCtorEq, al63, ap24_24, bs24_0, bs24_1, bs24_2, bs24_5, cv3_5, fa61_0, fa61_1, fa61_2, fa63_0, fa63_1, fa63_2, fa63_3, ix27, ix58, ld3, ld58, ld63, ln27, ln58, st63, ov1, ov2, ov3, ov4, ov5, p4, pj]
            refine st_appB q12 4 0 rfl rfl (by rw [bts_len, List.length_append, List.length_take, le8_len, hlU]; omega) rfl rfl (by decide) (by omega) fun H13 q13 => ?_
            simp only [List.set_cons_zero, List.set_cons_succ] at q13
            simp -implicitDefEqProofs only [kz, kk0, kk1, kk2, kk3, ↓two_true, ↓two_false, mkv, aggAt, Nat.reduceLeDiff, Nat.reduceSub, Nat.reduceMul, implies_true, Nat.reduceEqDiff, reduceIte, Nat.reduceAdd, Nat.reduceBEq, reduceCtorEq, al63, ap24_24, bs24_0, bs24_1, bs24_2, bs24_5, cv3_5, fa61_0, fa61_1, fa61_2, fa63_0, fa63_1, fa63_2, fa63_3, ix27, ix58, ld3, ld58, ld63, ln27, ln58, st63, ov1, ov2, ov3, ov4, ov5, p4, pj, wj]
            refine ⟨(j + 1, H12.length), by simp only; omega, ⟨rfl, rfl, rfl, rfl, rfl, trivial⟩, ⟨rfl, rfl, hj2⟩, ?_⟩
            simp only [List.set_cons_zero, List.set_cons_succ]
            have e9 : bts (U ++ (le8 (m[k] + 1000000000000)).take j) ++ [Value.int .u8 (IntKind.u8.wrap ((m[k] + 1000000000000).fdiv (2 ^ (8 * j))))] = bts (U ++ (le8 (m[k] + 1000000000000)).take (j + 1)) := by
              rw [le8_take hj2, ← List.append_assoc]
              simp only [← bts_app]
              rfl
            rw [e9] at q13
            exact q13.pick [1, 2, 3, 4] _ rfl (by decide)
          · have hj2 : j = 8 := by have h5 := of_decide_eq_false u4; omega
            subst hj2
            rw [List.take_of_length_le (by rw [le8_len]; exact Nat.le_refl _)] at q11
            simp -implicitDefEqProofs only [kz, kk0, kk1, kk2, kk3, ↓two_true, ↓two_false, mkv, aggAt, Nat.reduceLeDiff, Nat.reduceSub, Nat.reduceMul, implies_true, Nat.reduceEqDiff, reduceIte, Nat.reduceAdd, Nat.reduceBEq, reduceCtorEq, al63, ap24_24, bs24_0, bs24_1, bs24_2, bs24_5, cv3_5, fa61_0, fa61_1, fa61_2, fa63_0, fa63_1, fa63_2, fa63_3, ix27, ix58, ld3, ld58, ld63, ln27, ln58, st63, ov1, ov2, ov3, ov4, ov5, p4, pj, wk]
            refine ⟨(k + 1, b4), by simp only; omega, ⟨?_, ?_, ?_, trivial⟩, ⟨?_, rfl, hk2⟩, ?_⟩
            · first | rfl | exact ov1.trans mv1.symm
            · first | rfl | exact ov2.trans mv2.symm
            · first | rfl | exact ov3.trans mv3.symm
            · simp only [Nat.add_mul, Nat.one_mul]; rfl
            · simp only [List.set_cons_zero, List.set_cons_succ]
              rw [List.take_succ_eq_append_getElem hk2, List.flatMap_append, List.flatMap_cons, List.flatMap_nil, List.append_nil, ← List.append_assoc, hU]
              exact q11
        · have hkl : k = m.length := by have h5 := of_decide_eq_false u3; omega
          subst hkl
          rw [List.take_length] at q10
          have hlW : (W ++ m.flatMap fun n => le8 (n + 1000000000000)).length = W.length + m.length * 8 := by rw [List.length_append, le8s_len]
          simp -implicitDefEqProofs only [kz, kk0, kk1, kk2, kk3, ↓two_true, ↓two_false, mkv, aggAt, Nat.reduceLeDiff, Nat.reduceSub, Nat.reduceMul, implies_true, Nat.reduceEqDiff, reduceIte, Nat.reduceAdd, Nat.reduceBEq, reduceCtorEq, al63, ap24_24, bs24_0, bs24_1, bs24_2, bs24_5, cv3_5, fa61_0, fa61_1, fa61_2, fa63_0, fa63_1, fa63_2, fa63_3, ix27, ix58, ld3, ld58, ld63, ln27, ln58, st63, mv1, mv2, mv3, n4, nk, wi]
          refine ⟨(i + 1, b2), by simp only; omega, ⟨?_, trivial⟩, ⟨?_, rfl, hlt⟩, ?_⟩
          · first | rfl | exact mv1.trans lv1.symm
          · rw [hpk, hlW]
          · simp only
            rw [hpk]
            exact q10.pick [3] _ rfl (by decide)
      · have ho1 : (op != 1) = true := bne_iff_ne.2 hop
        simp -implicitDefEqProofs only [kz, kk0, kk1, kk2, kk3, ↓two_true, ↓two_false, mkv, aggAt, Nat.reduceLeDiff, Nat.reduceSub, Nat.reduceMul, implies_true, Nat.reduceEqDiff, reduceIte, Nat.reduceAdd, Nat.reduceBEq, reduceCtorEq, al63, ap24_24, bs24_0, bs24_1, bs24_2, bs24_5, cv3_5, fa61_0, fa61_1, fa61_2, fa63_0, fa63_1, fa63_2, fa63_3, ix27, ix58, ld3, ld58, ld63, ln27, ln58, st63, lv1, ki, k4, ho1, wi]
        have hpI : pkI ⟨op, ia, is, io, iw, m⟩ = [op, ia, is, io, iw].map IntKind.u8.wrap := by unfold pkI; rw [if_neg hop, List.append_nil]
        refine ⟨(i + 1, H6.length), by simp only; omega, ⟨rfl, trivial⟩, ⟨?_, rfl, hlt⟩, ?_⟩
        · rw [hpk, hpI, hWl]
        · simp only
          rw [hpk, hpI]
          exact q7.pick [2] _ rfl (by decide)
    · have hil : i = n := by have h5 := of_decide_eq_false u2; omega
      subst hil
      have hpg : pkT l l.length = pkG l := by unfold pkT pkG; rw [List.take_length]
      rw [hll] at hpg
      rw [hpg] at q3
      try simp -implicitDefEqProofs only [kz, kk0, kk1, kk2, kk3, ↓two_true, ↓two_false, mkv, aggAt, Nat.reduceLeDiff, Nat.reduceSub, Nat.reduceMul, implies_true, Nat.reduceEqDiff, reduceIte, Nat.reduceAdd, Nat.reduceBEq, reduceCtorEq, al63, ap24_24, bs24_0, bs24_1, bs24_2, bs24_5, cv3_5, fa61_0, fa61_1, fa61_2, fa63_0, fa63_1, fa63_2, fa63_3, ix27, ix58, ld3, ld58, ld63, ln27, ln58, st63, lv1, ki, k4]
      rw [hk, hpg]
      have hA : pkA l = pkG l := by unfold pkA; rw [if_pos hk]
      rw [hA]
      exact ⟨⟨_, rfl, .inr ⟨bo, rfl, q3.bxlt 0 rfl, q3.bx 0 rfl⟩⟩, q3.ext⟩

theorem specPack_u {H : AH} {v : Value} {n : Nat} {xs : List Value} {V : List CV} (h : LI.ok H (.rd [.row v kInstr n xs] [V])) (hl : n ≤ 1048576) :
    CallsA Try.prog 9 #[v] H fun r H' => (∃ w, r = .tuple #[w, .bool (cdOk (insL V n))] ∧ ByNew H H' w (pkA (insL V n))) ∧ ∃ K, H' = H ++ K := by
  obtain ⟨h1, rfl⟩ := LI.row h
  exact specPack_ok h1 hl

theorem implPack_u {H : AH} {v : Value} {n : Nat} {xs : List Value} {V : List CV} (h : LI.ok H (.rd [.row v kInstr n xs] [V])) (hl : n ≤ 1048576) :
    CallsA Try.prog 11 #[v] H fun r H' => (∃ w, r = .tuple #[w, .bool (cdOk (insL V n))] ∧ ByNew H H' w (pkA (insL V n))) ∧ ∃ K, H' = H ++ K := by
  obtain ⟨h1, rfl⟩ := LI.row h
  exact implPack_ok h1 hl

theorem pkA_len {l : List Ins} : (pkA l).length ≤ 144421 := by
  unfold pkA
  split
  · rename_i h
    unfold cdOk at h
    simp only [Bool.and_eq_true, inB, decide_eq_true_eq] at h
    have h1 := pkT_len h.2.1 (i := l.length)
    have : pkT l l.length = pkG l := by unfold pkT pkG; rw [List.take_length]
    rw [this] at h1
    omega
  · simp

set_option maxHeartbeats 4000000 in
theorem law3 : LawA Try.prog 3 [22] := by
  intro H vs hro h
  obtain ⟨v, vs, rfl, h1, h2⟩ := h.cons
  obtain rfl := h2.nil
  obtain ⟨n, xs, fr, hn⟩ := rpRow (m := 5) (ks := kInstrw) h1 Try.underlying22 (by kernel_rfl) (by kernel_rfl)
  obtain ⟨a0a, a0c, rfl, _⟩ := fr.op
  refine w3 ?_
  unfold k3
  simp -implicitDefEqProofs only [kz, kk0, kk1, kk2, kk3, ↓two_true, ↓two_false, oS_some, oM_some, mkv, aggAt, Nat.reduceLeDiff, Nat.reduceSub, Nat.reduceMul, implies_true, Nat.reduceEqDiff, reduceIte, Nat.reduceAdd, Nat.reduceBEq, reduceCtorEq, (bin_bool_eql ub4), (bin_bool_neq ub4)]
  refine (szInstrS_fl fr hn (by decide)).mono ?_
  rintro _ H0 ⟨rfl, hK0⟩
  simp -implicitDefEqProofs only [kz, kk0, kk1, kk2, kk3, ↓two_true, ↓two_false, oS_some, oM_some, mkv, aggAt, Nat.reduceLeDiff, Nat.reduceSub, Nat.reduceMul, implies_true, Nat.reduceEqDiff, reduceIte, Nat.reduceAdd, Nat.reduceBEq, reduceCtorEq, (bin_bool_eql ub4), (bin_bool_neq ub4)]
  refine two_intro (fun h => trivial) (fun h => ?_)
  obtain ⟨-, hsz⟩ := szI_pos (by simpa using h)
  have fr1 : FRow H (.slice a0a n a0c) kInstr n xs := fr.strong (by omega)
  have hn1 : n ≤ 1048576 := by omega
  have hs1 : rsum (cvs H xs) ≤ 1048576 := by omega
  have f_a0 : LI.ok H (.rd [.row (.slice a0a n a0c) kInstr n xs] [cvs H xs]) := ⟨fun c hc => by simp only [List.mem_singleton] at hc; subst hc; exact fr1, rfl⟩
  have r_a0 : LI.rg 0 H.length (.rd [.row (.slice a0a n a0c) kInstr n xs] [cvs H xs]) := fun b hb => ⟨Nat.zero_le _, f_a0.lt b hb⟩
  have f_a0 := f_a0.ext hK0
  have L0 := ext_len hK0
  have h9 : (cvs H xs).length = n * 6 := by have := fr.len; simp [cvs]; exact this
  have hcn : cntF (cvs H xs) ≤ 8388608 := by have := cntF_le (l := cvs H xs); omega
  clear h hsz h9
  generalize hV : cvs H xs = V at *
  clear hV fr fr1
  have hc1 : cntF ([V] : List (List CV)).flatten = cntF V := by simp
  have hpl := pkA_len (l := insL V n)
  refine (toInstrS_th f_a0 hn1 hs1).mono ?_
  rintro _ H1 ⟨⟨t1a, t1c, t1ys, rfl, nl⟩, hK1⟩
  have L1 := ext_len hK1
  have f_a0 := f_a0.ext hK1
  have f_t1 := (nl).ok.1
  simp -implicitDefEqProofs only [kz, kk0, kk1, kk2, kk3, ↓two_true, ↓two_false, oS_some, oM_some, mkv, aggAt, Nat.reduceLeDiff, Nat.reduceSub, Nat.reduceMul, implies_true, Nat.reduceEqDiff, reduceIte, Nat.reduceAdd, Nat.reduceBEq, reduceCtorEq, (bin_bool_eql ub4), (bin_bool_neq ub4)]
  refine (specPack_u f_t1.rd hn1).mono ?_
  rintro _ H2 ⟨⟨w, rfl, bw⟩, hK2⟩
  have wlt : ∀ b, blkOf w = some b → H1.length ≤ b ∧ b < H2.length := fun b hb => bw.lt hb
  have L2 := ext_len hK2
  have f_a0 := f_a0.ext hK2
  clear f_t1 nl
  simp -implicitDefEqProofs only [kz, kk0, kk1, kk2, kk3, ↓two_true, ↓two_false, oS_some, oM_some, mkv, aggAt, Nat.reduceLeDiff, Nat.reduceSub, Nat.reduceMul, implies_true, Nat.reduceEqDiff, reduceIte, Nat.reduceAdd, Nat.reduceBEq, reduceCtorEq, (bin_bool_eql ub4), (bin_bool_neq ub4)]
  refine (toInstrS_th f_a0 hn1 hs1).mono ?_
  rintro _ H3 ⟨⟨xa, xc, xys, rfl, nl⟩, hK3⟩
  have L3 := ext_len hK3
  have f_a0 := f_a0.ext hK3
  have bw := bw.ext hK3
  have f_x := (nl).ok.1
  have r_x := (nl).ok.2
  simp -implicitDefEqProofs only [kz, kk0, kk1, kk2, kk3, ↓two_true, ↓two_false, oS_some, oM_some, mkv, aggAt, Nat.reduceLeDiff, Nat.reduceSub, Nat.reduceMul, implies_true, Nat.reduceEqDiff, reduceIte, Nat.reduceAdd, Nat.reduceBEq, reduceCtorEq, (bin_bool_eql ub4), (bin_bool_neq ub4)]
  refine (implPack_u f_x.rd hn1).mono ?_
  rintro _ H4 ⟨⟨g, rfl, bg⟩, hK4⟩
  obtain ⟨t4, glt, ht4⟩ : ∃ t4, (∀ b, blkOf g = some b → H3.length ≤ b ∧ b < t4) ∧ t4 = H4.length := ⟨_, fun b hb => bg.lt hb, rfl⟩
  have L4 := ext_len hK4
  have f_a0 := f_a0.ext hK4
  have f_x := f_x.ext hK4
  have bw := bw.ext hK4
  simp -implicitDefEqProofs only [kz, kk0, kk1, kk2, kk3, ↓two_true, ↓two_false, oS_some, oM_some, mkv, aggAt, Nat.reduceLeDiff, Nat.reduceSub, Nat.reduceMul, implies_true, Nat.reduceEqDiff, reduceIte, Nat.reduceAdd, Nat.reduceBEq, reduceCtorEq, (bin_bool_eql ub4), (bin_bool_neq ub4)]
  refine (eqByteS_ok bg.row bw.row (by omega)).mono ?_
  rintro _ _ ⟨rfl, rfl⟩
  simp -implicitDefEqProofs only [kz, kk0, kk1, kk2, kk3, ↓two_true, ↓two_false, oS_some, oM_some, mkv, aggAt, Nat.reduceLeDiff, Nat.reduceSub, Nat.reduceMul, implies_true, Nat.reduceEqDiff, reduceIte, Nat.reduceAdd, Nat.reduceBEq, reduceCtorEq, (bin_bool_eql ub4), (bin_bool_neq ub4), beq_self_eq_true, bne_self_eq_false, Bool.not_true]
  refine (toInstrS_th f_a0 hn1 hs1).mono ?_
  rintro _ H6 ⟨⟨ya, yc, yys, rfl, nl⟩, hK6⟩
  have L6 := ext_len hK6
  have f_a0 := f_a0.ext hK6
  have f_x := f_x.ext hK6
  have bw := bw.ext hK6
  have bg := bg.ext hK6
  have f_y := (nl).ok.1
  simp -implicitDefEqProofs only [kz, kk0, kk1, kk2, kk3, ↓two_true, ↓two_false, oS_some, oM_some, mkv, aggAt, Nat.reduceLeDiff, Nat.reduceSub, Nat.reduceMul, implies_true, Nat.reduceEqDiff, reduceIte, Nat.reduceAdd, Nat.reduceBEq, reduceCtorEq, (bin_bool_eql ub4), (bin_bool_neq ub4)]
  refine (eqInstrS_th f_x.rd f_y.rd (by omega) (by omega)).mono ?_
  rintro _ H7 ⟨rfl, hK7⟩
  have L7 := ext_len hK7
  have f_a0 := f_a0.ext hK7
  have f_x := f_x.ext hK7
  have bw := bw.ext hK7
  have bg := bg.ext hK7
  clear f_y nl
  simp -implicitDefEqProofs only [kz, kk0, kk1, kk2, kk3, ↓two_true, ↓two_false, oS_some, oM_some, mkv, aggAt, Nat.reduceLeDiff, Nat.reduceSub, Nat.reduceMul, implies_true, Nat.reduceEqDiff, reduceIte, Nat.reduceAdd, Nat.reduceBEq, reduceCtorEq, (bin_bool_eql ub4), (bin_bool_neq ub4), beq_self_eq_true, bne_self_eq_false, Bool.not_true]
  refine (markInstrS_u f_x (by omega) (by rw [hc1]; omega)).mono ?_
  rintro _ H8 ⟨rfl, xs1, V1, hm, fm, vm⟩
  have L8 := hm.len
  have hfr := (hm.ok r_x).2
  have f_a0 := f_a0.frame hfr (r_a0.off (by omega))
  have bw := bw.same (H' := H8) fun b hb => hfr b (bw.lt hb).2 (fun e => by have := wlt b hb; omega)
  have bg := bg.same (H' := H8) fun b hb => hfr b (bg.lt hb).2 (fun e => by have := glt b hb; omega)
  clear hm fm vm hfr f_x
  rw [hc1]
  have d1 : decide ((1 : Int) + (cntF V : Int) < 0) = false := decide_eq_false (by omega)
  simp -implicitDefEqProofs only [kz, kk0, kk1, kk2, kk3, ↓two_true, ↓two_false, oS_some, oM_some, mkv, aggAt, Nat.reduceLeDiff, Nat.reduceSub, Nat.reduceMul, implies_true, Nat.reduceEqDiff, reduceIte, Nat.reduceAdd, Nat.reduceBEq, reduceCtorEq, (bin_bool_eql ub4), (bin_bool_neq ub4), d1]
  refine (eqByteS_ok bg.row bw.row (by omega)).mono ?_
  rintro _ _ ⟨rfl, rfl⟩
  simp -implicitDefEqProofs only [kz, kk0, kk1, kk2, kk3, ↓two_true, ↓two_false, oS_some, oM_some, mkv, aggAt, Nat.reduceLeDiff, Nat.reduceSub, Nat.reduceMul, implies_true, Nat.reduceEqDiff, reduceIte, Nat.reduceAdd, Nat.reduceBEq, reduceCtorEq, (bin_bool_eql ub4), (bin_bool_neq ub4), beq_self_eq_true, bne_self_eq_false, Bool.not_true]
  refine (markByteS_ok bg (by omega) (by decide)).mono ?_
  rintro _ H10 ⟨rfl, bg, L10, hfr⟩
  have bw := bw.same (H' := H10) fun b hb => hfr b (fun e => by have := wlt b hb; have := glt b e; omega)
  have f_a0 := f_a0.frame (H' := H10) (lo := H3.length) (hi := t4) (fun b _ hn => hfr b (fun e => hn (glt b e))) (r_a0.off (by omega))
  clear hfr
  simp -implicitDefEqProofs only [kz, kk0, kk1, kk2, kk3, ↓two_true, ↓two_false, oS_some, oM_some, mkv, aggAt, Nat.reduceLeDiff, Nat.reduceSub, Nat.reduceMul, implies_true, Nat.reduceEqDiff, reduceIte, Nat.reduceAdd, Nat.reduceBEq, reduceCtorEq, (bin_bool_eql ub4), (bin_bool_neq ub4)]
  refine (heldByteS_ok bg.row (by rw [mksB_len]; omega) (by decide)).mono ?_
  rintro _ _ ⟨rfl, rfl⟩
  rw [heldB_mks]
  have d2 : decide ((1 : Int) + ((pkA (insL V n)).length : Int) < 0) = false := decide_eq_false (by omega)
  simp -implicitDefEqProofs only [kz, kk0, kk1, kk2, kk3, ↓two_true, ↓two_false, oS_some, oM_some, mkv, aggAt, Nat.reduceLeDiff, Nat.reduceSub, Nat.reduceMul, implies_true, Nat.reduceEqDiff, reduceIte, Nat.reduceAdd, Nat.reduceBEq, reduceCtorEq, (bin_bool_eql ub4), (bin_bool_neq ub4), d2, bne_self_eq_false]
  refine (toInstrS_th f_a0 hn1 hs1).mono ?_
  rintro _ H12 ⟨⟨za, zc, zys, rfl, nl⟩, hK12⟩
  have L12 := ext_len hK12
  have bw := bw.ext hK12
  have bg := bg.ext hK12
  have f_z := (nl).ok.1
  simp -implicitDefEqProofs only [kz, kk0, kk1, kk2, kk3, ↓two_true, ↓two_false, oS_some, oM_some, mkv, aggAt, Nat.reduceLeDiff, Nat.reduceSub, Nat.reduceMul, implies_true, Nat.reduceEqDiff, reduceIte, Nat.reduceAdd, Nat.reduceBEq, reduceCtorEq, (bin_bool_eql ub4), (bin_bool_neq ub4)]
  refine (implPack_u f_z.rd hn1).mono ?_
  rintro _ H13 ⟨⟨h, rfl, bh⟩, hK13⟩
  have bw := bw.ext hK13
  have bg := bg.ext hK13
  simp -implicitDefEqProofs only [kz, kk0, kk1, kk2, kk3, ↓two_true, ↓two_false, oS_some, oM_some, mkv, aggAt, Nat.reduceLeDiff, Nat.reduceSub, Nat.reduceMul, implies_true, Nat.reduceEqDiff, reduceIte, Nat.reduceAdd, Nat.reduceBEq, reduceCtorEq, (bin_bool_eql ub4), (bin_bool_neq ub4)]
  refine (eqByteS_ok bh.row bw.row (by omega)).mono ?_
  rintro _ _ ⟨rfl, rfl⟩
  simp -implicitDefEqProofs only [kz, kk0, kk1, kk2, kk3, ↓two_true, ↓two_false, oS_some, oM_some, mkv, aggAt, Nat.reduceLeDiff, Nat.reduceSub, Nat.reduceMul, implies_true, Nat.reduceEqDiff, reduceIte, Nat.reduceAdd, Nat.reduceBEq, reduceCtorEq, (bin_bool_eql ub4), (bin_bool_neq ub4), beq_self_eq_true, bne_self_eq_false, Bool.not_true]
  refine (heldByteS_ok bg.row (by rw [mksB_len]; omega) (by decide)).mono ?_
  rintro _ _ ⟨rfl, rfl⟩
  rw [heldB_mks]
  simp -implicitDefEqProofs only [kz, kk0, kk1, kk2, kk3, ↓two_true, ↓two_false, oS_some, oM_some, mkv, aggAt, Nat.reduceLeDiff, Nat.reduceSub, Nat.reduceMul, implies_true, Nat.reduceEqDiff, reduceIte, Nat.reduceAdd, Nat.reduceBEq, reduceCtorEq, (bin_bool_eql ub4), (bin_bool_neq ub4), d2, bne_self_eq_false]

end Go.Proofs.Ytamlfhngenndfaa.AM
