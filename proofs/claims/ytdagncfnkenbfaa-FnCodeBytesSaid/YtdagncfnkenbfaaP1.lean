/- What the functions answer, part 1. -/
import Derived.Test.YtdagncfnkenbfaaK1
set_option linter.unusedVariables false
set_option linter.unusedSimpArgs false
set_option linter.defProp false
set_option maxRecDepth 100000
/- What the functions answer, part 1. -/
namespace Go.Proofs.Ytdagncfnkenbfaa.AM
open Go Go.Proofs.Ytdagncfnkenbfaa Go.Proofs
theorem RpA.cons {P : Program} {H : AH} {t : TypeId} {ts : List TypeId} {vs : List Value} (h : RpA P H (t :: ts) vs) : ∃ v vs', vs = v :: vs' ∧ RpV P H t v ∧ RpA P H ts vs' := by
  cases vs with
  | nil => exact h.elim
  | cons v vs => exact ⟨v, vs, rfl, h.1, h.2⟩
theorem RpA.nil {P : Program} {H : AH} {vs : List Value} (h : RpA P H [] vs) : vs = [] := by
  cases vs with
  | nil => rfl
  | cons v vs => exact h.elim
theorem Rp.int {P : Program} {H : AH} {k : Nat} {t : TypeId} {q : IntKind} {vs : List Value} (hu : P.underlying t = some (.int q)) (h : Rp P H k t vs) : ∃ n, vs = [.int q n] ∧ (Lit.int q n).wf = true := by
  cases k with
  | zero => exact h.elim
  | succ k => simpa only [Rp, hu] using h
theorem bs_size {a : Array UInt8} : (ByteArray.mk a).size = a.size := rfl
/-- Bounds of an int. -/
def I64 (n : Int) : Prop := -9223372036854775808 ≤ n ∧ n ≤ 9223372036854775807
theorem wf_i64 {n : Int} (h : (Lit.int .i64 n).wf = true) : I64 n := by
  simp [Lit.wf, IntKind.min, IntKind.max, IntKind.bits, IntKind.signed] at h
  exact ⟨by omega, by omega⟩

def sg1 (s : Int) : Bool := s == 43 || s == 45 || s == 42 || s == 124 || s == 126
def sg2 (s : Int) : Bool := s == 43 || s == 45 || s == 42 || s == 37 || s == 124 || s == 38 || s == 94 || s == 61 || s == 60 || s == 62
def hasS (l : ByteArray) (s : Int) : Bool := (List.range l.size).any fun i => s == byt l i
theorem hasS_true {l : ByteArray} {s : Int} : hasS l s = true ↔ ∃ i, i < l.size ∧ byt l i = s := by
  simp only [hasS, List.any_eq_true, List.mem_range, beq_iff_eq]
  exact ⟨fun ⟨i, h1, h2⟩ => ⟨i, h1, h2.symm⟩, fun ⟨i, h1, h2⟩ => ⟨i, h1, h2.symm⟩⟩
theorem hasS_1 {s : Int} : hasS ⟨#[43, 45, 42, 124, 126]⟩ s = sg1 s := by
  show ((s == 43) || ((s == 45) || ((s == 42) || ((s == 124) || ((s == 126) || false))))) = _
  simp [sg1, Bool.or_assoc]
theorem hasS_2 {s : Int} : hasS ⟨#[43, 45, 42, 37, 124, 38, 94, 61, 60, 62]⟩ s = sg2 s := by
  show ((s == 43) || ((s == 45) || ((s == 42) || ((s == 37) || ((s == 124) || ((s == 38) || ((s == 94) || ((s == 61) || ((s == 60) || ((s == 62) || false)))))))))) = _
  simp [sg2, Bool.or_assoc]
theorem hasS_3 {s : Int} : hasS ⟨#[105, 35, 44, 114, 122, 103]⟩ s = (s == 105 || s == 35 || s == 44 || s == 114 || s == 122 || s == 103) := by
  show ((s == 105) || ((s == 35) || ((s == 44) || ((s == 114) || ((s == 122) || ((s == 103) || false)))))) = _
  simp [Bool.or_assoc]
theorem hasS_4 {s : Int} : hasS ⟨#[35, 44, 116, 100, 114, 64, 63, 36, 101]⟩ s = (s == 35 || s == 44 || s == 116 || s == 100 || s == 114 || s == 64 || s == 63 || s == 36 || s == 101) := by
  show ((s == 35) || ((s == 44) || ((s == 116) || ((s == 100) || ((s == 114) || ((s == 64) || ((s == 63) || ((s == 36) || ((s == 101) || false))))))))) = _
  simp [Bool.or_assoc]
def inB (x a b : Int) : Bool := decide (a ≤ x) && decide (x ≤ b)
theorem inB_true {x a b : Int} : inB x a b = true ↔ a ≤ x ∧ x ≤ b := by simp [inB]
def numOk (x : Int) : Bool := inB x (-1000000000000) 1000000000000

set_option maxHeartbeats 4000000 in
theorem l1Sign1_ok (s : Int) (H : AH) : CallsA Try.prog 98 #[.int .i64 s] H fun r H' => r = .bool (sg1 s) ∧ H' = H := by
  refine w98 ?_
  unfold k98 sg1
  simp -implicitDefEqProofs only [kz, kk0, kk1, kk2, kk3, ↓two_true, ↓two_false, oS_some, oM_some, mkv, aggAt, Nat.reduceLeDiff, Nat.reduceSub, Nat.reduceMul, implies_true, Nat.reduceEqDiff, reduceIte, Nat.reduceAdd, Nat.reduceBEq, reduceCtorEq]
  simp +contextual [two]
theorem l1Sign1_eq {s : Int} {H : AH} {Φ : Value → AH → Prop} : CallsA Try.prog 98 #[.int .i64 s] H Φ = Φ (.bool (sg1 s)) H := (l1Sign1_ok s H).eq0

set_option maxHeartbeats 4000000 in
theorem l1Sign2_ok (s : Int) (H : AH) : CallsA Try.prog 97 #[.int .i64 s] H fun r H' => r = .bool (sg2 s) ∧ H' = H := by
  refine w97 ?_
  unfold k97 sg2
  simp -implicitDefEqProofs only [kz, kk0, kk1, kk2, kk3, ↓two_true, ↓two_false, oS_some, oM_some, mkv, aggAt, Nat.reduceLeDiff, Nat.reduceSub, Nat.reduceMul, implies_true, Nat.reduceEqDiff, reduceIte, Nat.reduceAdd, Nat.reduceBEq, reduceCtorEq]
  simp +contextual [two]
theorem l1Sign2_eq {s : Int} {H : AH} {Φ : Value → AH → Prop} : CallsA Try.prog 97 #[.int .i64 s] H Φ = Φ (.bool (sg2 s)) H := (l1Sign2_ok s H).eq0

set_option maxHeartbeats 4000000 in
theorem hasSign_ok (l : ByteArray) (s : Int) (H : AH) (hl : l.size < 9223372036854775807) : CallsA Try.prog 74 #[.string l, .int .i64 s] H fun r H' => r = .bool (hasS l s) ∧ H' = H := by
  refine w74 ?_
  unfold k74
  simp -implicitDefEqProofs only [kz, kk0, kk1, kk2, kk3, ↓two_true, ↓two_false, oS_some, oM_some, mkv, aggAt, Nat.reduceLeDiff, Nat.reduceSub, Nat.reduceMul, implies_true, Nat.reduceEqDiff, reduceIte, Nat.reduceAdd, Nat.reduceBEq, reduceCtorEq, cv5_3, (idx_str us9), ln9]
  refine rW_loop (σ := Nat) (fun i tm H' => tm 0 = .string l ∧ tm 1 = .int .i64 s ∧ tm 5 = .int .i64 i ∧ H' = H ∧ i ≤ l.size ∧ ∀ j, j < i → byt l j ≠ s) (fun i => l.size - i) 0 ?_ ?_
  · simp -implicitDefEqProofs [kk0, kk1, kk2, kk3, rW_block, ↓two_true, ↓two_false, rW_cond, rO_guard, oS_some, oM_some, mkv, aggAt, Nat.reduceLeDiff, Nat.reduceSub, Nat.reduceMul, cond_true, cond_false, Option.bind_some, List.length_append, List.length_cons, List.length_nil, List.append_assoc, List.cons_append, List.nil_append, List.set_cons_zero, List.set_cons_succ, List.size_toArray, List.all_cons, List.all_nil, List.drop_zero, List.drop_succ_cons, List.take_succ_cons, List.take_zero, List.mem_cons, Prod.mk.injEq, List.not_mem_nil, implies_true, List.getElem?_toArray, List.getElem?_cons_zero, List.getElem?_cons_succ, List.getElem?_nil, Option.getD_some, Option.getD_none, Nat.reduceEqDiff, reduceIte, Nat.reduceAdd, List.map_toArray, List.map_cons, List.map_nil, Bool.false_eq_true, Nat.reduceBEq, Option.map_some, Option.map_none, reduceCtorEq, cv5_3, (idx_str us9), ln9]
  · rintro i tm H' ⟨h0, h1, h5, rfl, hi, hn⟩
    simp -implicitDefEqProofs only [kz, kk0, kk1, kk2, kk3, ↓two_true, ↓two_false, oS_some, oM_some, mkv, aggAt, Nat.reduceLeDiff, Nat.reduceSub, Nat.reduceMul, implies_true, Nat.reduceEqDiff, reduceIte, Nat.reduceAdd, Nat.reduceBEq, reduceCtorEq, cv5_3, (idx_str us9), ln9, h0, h1, h5]
    refine two_intro (fun hc => ?_) (fun hc => ?_)
    · have hc' : i < l.size := by simpa using hc
      have hb := byt_range l i
      rw [IntWalk.i64_in (↑i + 1) (by omega)]
      simp only [Int.toNat_natCast]
      rw [IntWalk.i64_in (byt l i) (by omega)]
      refine ⟨⟨by omega, by omega⟩, two_intro (fun h => ?_) (fun h => ?_)⟩
      · rw [hasS_true.2 ⟨i, hc', by simpa using h⟩]
      · refine ⟨i + 1, by omega, by simp, hc', fun j hj => ?_⟩
        rcases Nat.lt_or_ge j i with h1 | h1
        · exact hn j h1
        · have : j = i := by omega
          subst this
          simpa using h
    · have hc' : ¬ i < l.size := by simpa using hc
      have : hasS l s = false := by
        rw [← Bool.not_eq_true, hasS_true]
        rintro ⟨j, h1, h2⟩
        exact hn j (by omega) h2
      rw [this]
theorem hasSign_eq {l : ByteArray} {s : Int} {H : AH} (hl : l.size < 9223372036854775807) {Φ : Value → AH → Prop} : CallsA Try.prog 74 #[.string l, .int .i64 s] H Φ = Φ (.bool (hasS l s)) H := (hasSign_ok l s H hl).eq0

set_option maxHeartbeats 4000000 in
theorem oneSign_ok (s : Int) (H : AH) : CallsA Try.prog 102 #[.int .i64 s] H fun r H' => r = .bool (sg1 s) ∧ H' = H := by
  refine w102 ?_
  unfold k102
  simp -implicitDefEqProofs only [kz, kk0, kk1, kk2, kk3, ↓two_true, ↓two_false, oS_some, oM_some, mkv, aggAt, Nat.reduceLeDiff, Nat.reduceSub, Nat.reduceMul, implies_true, Nat.reduceEqDiff, reduceIte, Nat.reduceAdd, Nat.reduceBEq, reduceCtorEq, hasSign_eq, bs_size, Nat.reduceLT, hasS_1]
theorem oneSign_eq {s : Int} {H : AH} {Φ : Value → AH → Prop} : CallsA Try.prog 102 #[.int .i64 s] H Φ = Φ (.bool (sg1 s)) H := (oneSign_ok s H).eq0

set_option maxHeartbeats 4000000 in
theorem twoSign_ok (s : Int) (H : AH) : CallsA Try.prog 103 #[.int .i64 s] H fun r H' => r = .bool (sg2 s) ∧ H' = H := by
  refine w103 ?_
  unfold k103
  simp -implicitDefEqProofs only [kz, kk0, kk1, kk2, kk3, ↓two_true, ↓two_false, oS_some, oM_some, mkv, aggAt, Nat.reduceLeDiff, Nat.reduceSub, Nat.reduceMul, implies_true, Nat.reduceEqDiff, reduceIte, Nat.reduceAdd, Nat.reduceBEq, reduceCtorEq, hasSign_eq, bs_size, Nat.reduceLT, hasS_2]
theorem twoSign_eq {s : Int} {H : AH} {Φ : Value → AH → Prop} : CallsA Try.prog 103 #[.int .i64 s] H Φ = Φ (.bool (sg2 s)) H := (twoSign_ok s H).eq0

set_option maxHeartbeats 4000000 in
theorem l1In_ok (x a b : Int) (H : AH) : CallsA Try.prog 39 #[.int .i64 x, .int .i64 a, .int .i64 b] H fun r H' => r = .bool (inB x a b) ∧ H' = H := by
  refine w39 ?_
  unfold k39 inB
  simp -implicitDefEqProofs only [kz, kk0, kk1, kk2, kk3, ↓two_true, ↓two_false, oS_some, oM_some, mkv, aggAt, Nat.reduceLeDiff, Nat.reduceSub, Nat.reduceMul, implies_true, Nat.reduceEqDiff, reduceIte, Nat.reduceAdd, Nat.reduceBEq, reduceCtorEq]
  simp +contextual [two]
  omega
theorem l1In_eq {x a b : Int} {H : AH} {Φ : Value → AH → Prop} : CallsA Try.prog 39 #[.int .i64 x, .int .i64 a, .int .i64 b] H Φ = Φ (.bool (inB x a b)) H := (l1In_ok x a b H).eq0

set_option maxHeartbeats 4000000 in
theorem within_ok (x a b : Int) (H : AH) : CallsA Try.prog 51 #[.int .i64 x, .int .i64 a, .int .i64 b] H fun r H' => r = .bool (inB x a b) ∧ H' = H := by
  refine w51 ?_
  unfold k51 inB
  simp -implicitDefEqProofs only [kz, kk0, kk1, kk2, kk3, ↓two_true, ↓two_false, oS_some, oM_some, mkv, aggAt, Nat.reduceLeDiff, Nat.reduceSub, Nat.reduceMul, implies_true, Nat.reduceEqDiff, reduceIte, Nat.reduceAdd, Nat.reduceBEq, reduceCtorEq]
  simp +contextual [two]
  omega
theorem within_eq {x a b : Int} {H : AH} {Φ : Value → AH → Prop} : CallsA Try.prog 51 #[.int .i64 x, .int .i64 a, .int .i64 b] H Φ = Φ (.bool (inB x a b)) H := (within_ok x a b H).eq0

set_option maxHeartbeats 4000000 in
theorem specNumOk_ok (x : Int) (H : AH) : CallsA Try.prog 76 #[.int .i64 x] H fun r H' => r = .bool (numOk x) ∧ H' = H := by
  refine w76 ?_
  unfold k76 numOk
  simp -implicitDefEqProofs only [kz, kk0, kk1, kk2, kk3, ↓two_true, ↓two_false, oS_some, oM_some, mkv, aggAt, Nat.reduceLeDiff, Nat.reduceSub, Nat.reduceMul, implies_true, Nat.reduceEqDiff, reduceIte, Nat.reduceAdd, Nat.reduceBEq, reduceCtorEq, l1In_eq]
theorem specNumOk_eq {x : Int} {H : AH} {Φ : Value → AH → Prop} : CallsA Try.prog 76 #[.int .i64 x] H Φ = Φ (.bool (numOk x)) H := (specNumOk_ok x H).eq0

set_option maxHeartbeats 4000000 in
theorem implNumOk_ok (x : Int) (H : AH) : CallsA Try.prog 101 #[.int .i64 x] H fun r H' => r = .bool (numOk x) ∧ H' = H := by
  refine w101 ?_
  unfold k101 numOk
  simp -implicitDefEqProofs only [kz, kk0, kk1, kk2, kk3, ↓two_true, ↓two_false, oS_some, oM_some, mkv, aggAt, Nat.reduceLeDiff, Nat.reduceSub, Nat.reduceMul, implies_true, Nat.reduceEqDiff, reduceIte, Nat.reduceAdd, Nat.reduceBEq, reduceCtorEq, within_eq]
theorem implNumOk_eq {x : Int} {H : AH} {Φ : Value → AH → Prop} : CallsA Try.prog 101 #[.int .i64 x] H Φ = Φ (.bool (numOk x)) H := (implNumOk_ok x H).eq0

theorem l1Min_eq {a b : Int} {H : AH} {Φ : Value → AH → Prop} : CallsA Try.prog 75 #[.int .i64 a, .int .i64 b] H Φ = Φ (.int .i64 (if a < b then a else b)) H := by
  have : CallsA Try.prog 75 #[.int .i64 a, .int .i64 b] H fun r H' => r = .int .i64 (if a < b then a else b) ∧ H' = H := by
    refine w75 ?_
    unfold k75
    simp -implicitDefEqProofs only [kz, kk0, kk1, kk2, kk3, ↓two_true, ↓two_false, oS_some, oM_some, mkv, aggAt, Nat.reduceLeDiff, Nat.reduceSub, Nat.reduceMul, implies_true, Nat.reduceEqDiff, reduceIte, Nat.reduceAdd, Nat.reduceBEq, reduceCtorEq]
    refine two_intro (fun h => ?_) (fun h => ?_)
    · rw [if_pos (by simpa using h)]
    · rw [if_neg (by simpa using h)]
  exact this.eq0

def ints (l : List Int) : List Value := l.map (.int .i64)
theorem ints_get {l : List Int} {i : Nat} (h : i < l.length) : (ints l)[i]? = some (.int .i64 l[i]) := by simp [ints, h]
/-- A slice of ints that may be read. -/
def IntRow (H : AH) (v : Value) (l : List Int) : Prop :=
  (v = .slice none 0 0 ∧ l = []) ∨ ∃ b o cs, v = .slice (some ⟨b, o, none⟩) l.length 1 ∧ rd H b = some cs ∧ o + l.length ≤ cs.length ∧ (cs.drop o).take l.length = ints l
def toI : Value → Int | .int _ n => n | _ => 0
def rowI (H : AH) : Value → List Int
  | .slice (some ⟨b, o, _⟩) n _ => ((((rd H b).getD []).drop o).take n).map toI
  | _ => []
def OkI (H : AH) (v : Value) : Prop := IntRow H v (rowI H v)
theorem IntRow.row {H : AH} {v : Value} {l : List Int} (h : IntRow H v l) : rowI H v = l := by
  rcases h with ⟨rfl, rfl⟩ | ⟨b, o, cs, rfl, h1, _, h2⟩
  · rfl
  · simp only [rowI, h1, Option.getD_some, h2, ints, List.map_map]
    have : (toI ∘ Value.int IntKind.i64) = id := by funext n; rfl
    rw [this, List.map_id]
theorem IntRow.ok {H : AH} {v : Value} {l : List Int} (h : IntRow H v l) : OkI H v := by
  unfold OkI; rw [h.row]; exact h
theorem IntRow.same {H H' : AH} {v : Value} {l : List Int} (h : IntRow H v l) (hs : ∀ b o n c, v = .slice (some ⟨b, o, none⟩) n c → rd H' b = rd H b) : IntRow H' v l := by
  rcases h with h | ⟨b, o, cs, h1, h2, h3, h4⟩
  · exact .inl h
  · exact .inr ⟨b, o, cs, h1, by rw [hs _ _ _ _ h1]; exact h2, h3, h4⟩
theorem IntRow.mono {H L : AH} {v : Value} {l : List Int} (h : IntRow H v l) : IntRow (H ++ L) v l := by
  rcases h with h | ⟨b, o, cs, h1, h2, h3, h4⟩
  · exact .inl h
  · exact .inr ⟨b, o, cs, h1, by rw [rdl (by simp [h2]), h2], h3, h4⟩
theorem OkI.mono {H L : AH} {v : Value} (h : OkI H v) : OkI (H ++ L) v := (IntRow.mono h).ok
theorem rowI_mono {H L : AH} {v : Value} (h : OkI H v) : rowI (H ++ L) v = rowI H v := (IntRow.mono h).row
theorem IntRow.op {H : AH} {v : Value} {l : List Int} (h : IntRow H v l) : ∃ a c, v = .slice a l.length c ∧ (0 < l.length → ∃ b o cs, a = some ⟨b, o, none⟩ ∧ c = 1 ∧ rd H b = some cs ∧ o + l.length ≤ cs.length ∧ ∀ i (hi : i < l.length), cs[o + i]? = some (.int .i64 l[i])) := by
  rcases h with ⟨rfl, rfl⟩ | ⟨b, o, cs, rfl, h1, h2, h3⟩
  · exact ⟨none, 0, rfl, fun h => by simp at h⟩
  · refine ⟨_, _, rfl, fun _ => ⟨b, o, cs, rfl, rfl, h1, h2, fun i hi => ?_⟩⟩
    have := ints_get hi
    rw [← h3, List.getElem?_take_of_lt hi, List.getElem?_drop] at this
    exact this
theorem OkI.nil {H : AH} : OkI H (.slice none 0 0) := .inl ⟨rfl, rfl⟩
def OwnRow (H : AH) (v : Value) (l : List Int) : Prop :=
  (v = .slice none 0 0 ∧ l = []) ∨ ∃ b o cs, v = .slice (some ⟨b, o, none⟩) l.length 1 ∧ H[b]? = some ⟨cs, .own⟩ ∧ o + l.length ≤ cs.length ∧ (cs.drop o).take l.length = ints l
theorem rd_own {H : AH} {b : Nat} {cs : List Value} (h : H[b]? = some ⟨cs, .own⟩) : rd H b = some cs := by simp [rd, h, rdB]
theorem wrt_own {H : AH} {b : Nat} {cs : List Value} (h : H[b]? = some ⟨cs, .own⟩) : wrt H b = some cs := by simp [wrt, h, wrB]
theorem OwnRow.int {H : AH} {v : Value} {l : List Int} (h : OwnRow H v l) : IntRow H v l := by
  rcases h with h | ⟨b, o, cs, h1, h2, h3, h4⟩
  · exact .inl h
  · exact .inr ⟨b, o, cs, h1, rd_own h2, h3, h4⟩
def mks (k : Int) (n : Nat) : List Int := (List.range n).map fun (i : Nat) => k + (i : Int)
theorem mks_len {k : Int} {n : Nat} : (mks k n).length = n := by simp [mks]
/-- The heap with other numbers in a row. -/
def putI (H : AH) (v : Value) (xs : List Int) : AH :=
  match v with
  | .slice (some ⟨b, o, _⟩) _ _ => H.set b ⟨splice ((wrt H b).getD []) o (ints xs), .own⟩
  | _ => H
def blkOf : Value → Option Nat
  | .slice (some ⟨b, _, _⟩) _ _ => some b
  | _ => none
theorem putI_len {H : AH} {v : Value} {xs : List Int} : (putI H v xs).length = H.length := by
  unfold putI; split <;> simp
theorem putI_get {H : AH} {v : Value} {xs : List Int} {b : Nat} (h : blkOf v ≠ some b) : (putI H v xs)[b]? = H[b]? := by
  unfold putI
  split
  · simp only [blkOf, ne_eq, Option.some.injEq] at h
    rw [List.getElem?_set_ne h]
  · rfl
theorem splice_take {xs cs : List Value} {o : Nat} (h : o + xs.length ≤ cs.length) : ((splice cs o xs).drop o).take xs.length = xs := by
  refine List.ext_getElem? fun i => ?_
  rcases Nat.lt_or_ge i xs.length with h1 | h1
  · rw [List.getElem?_take_of_lt h1, List.getElem?_drop, splice_get xs cs o (o + i) h, if_pos (by omega), Nat.add_sub_cancel_left]
  · rw [List.getElem?_eq_none (by simp; omega), List.getElem?_eq_none (by omega)]
theorem OwnRow.put {H : AH} {v : Value} {l xs : List Int} (h : OwnRow H v l) (hx : xs.length = l.length) : OwnRow (putI H v xs) v xs := by
  rcases h with ⟨rfl, rfl⟩ | ⟨b, o, cs, rfl, h2, h3, h4⟩
  · exact .inl ⟨rfl, by cases xs <;> simp_all⟩
  · refine .inr ⟨b, o, splice cs o (ints xs), by rw [hx], ?_, ?_, ?_⟩
    · have hlt := (List.getElem?_eq_some_iff.1 h2).1
      simp only [putI, wrt_own h2, Option.getD_some]
      rw [List.getElem?_set_self hlt]
    · rw [splice_length]; omega
    · have := splice_take (xs := ints xs) (cs := cs) (o := o) (by simp [ints]; omega)
      rw [show (ints xs).length = xs.length by simp [ints]] at this
      exact this
theorem OwnRow.other {H : AH} {v w : Value} {l xs : List Int} (h : OwnRow H v l) (hb : blkOf v = none ∨ blkOf w ≠ blkOf v) : OwnRow (putI H w xs) v l := by
  rcases h with h | ⟨b, o, cs, rfl, h2, h3, h4⟩
  · exact .inl h
  · refine .inr ⟨b, o, cs, rfl, ?_, h3, h4⟩
    rw [putI_get]
    · exact h2
    · rcases hb with hb | hb
      · simp [blkOf] at hb
      · simpa [blkOf] using hb
theorem OwnRow.mono {H L : AH} {v : Value} {l : List Int} (h : OwnRow H v l) : OwnRow (H ++ L) v l := by
  rcases h with h | ⟨b, o, cs, h1, h2, h3, h4⟩
  · exact .inl h
  · exact .inr ⟨b, o, cs, h1, gtl h2, h3, h4⟩
theorem list_set_set {α : Type} {l : List α} {i : Nat} {a b : α} : (l.set i a).set i b = l.set i b := by simp
/-- A slice of elements of 's' cells each, that may be read. -/
def SRow (H : AH) (v : Value) (s : Nat) (xs : List (List Value)) : Prop :=
  (v = .slice none 0 0 ∧ xs = []) ∨ ∃ b o cs, v = .slice (some ⟨b, o, none⟩) xs.length s ∧ rd H b = some cs ∧ o + xs.length * s ≤ cs.length ∧ ∀ (i : Nat) x, xs[i]? = some x → x.length = s ∧ ∀ (j : Nat) y, x[j]? = some y → cs[o + i * s + j]? = some y
def SOwn (H : AH) (v : Value) (s : Nat) (xs : List (List Value)) : Prop :=
  (v = .slice none 0 0 ∧ xs = []) ∨ ∃ b o cs, v = .slice (some ⟨b, o, none⟩) xs.length s ∧ H[b]? = some ⟨cs, .own⟩ ∧ o + xs.length * s ≤ cs.length ∧ ∀ (i : Nat) x, xs[i]? = some x → x.length = s ∧ ∀ (j : Nat) y, x[j]? = some y → cs[o + i * s + j]? = some y
theorem SOwn.row {H : AH} {v : Value} {s : Nat} {xs : List (List Value)} (h : SOwn H v s xs) : SRow H v s xs := by
  rcases h with h | ⟨b, o, cs, h1, h2, h3, h4⟩
  · exact .inl h
  · exact .inr ⟨b, o, cs, h1, rd_own h2, h3, h4⟩
theorem SRow.same {H H' : AH} {v : Value} {s : Nat} {xs : List (List Value)} (h : SRow H v s xs) (hs : ∀ b, blkOf v = some b → rd H' b = rd H b) : SRow H' v s xs := by
  rcases h with h | ⟨b, o, cs, h1, h2, h3, h4⟩
  · exact .inl h
  · exact .inr ⟨b, o, cs, h1, by rw [hs b (by rw [h1]; rfl)]; exact h2, h3, h4⟩
theorem SRow.mono {H L : AH} {v : Value} {s : Nat} {xs : List (List Value)} (h : SRow H v s xs) : SRow (H ++ L) v s xs := by
  rcases h with h | ⟨b, o, cs, h1, h2, h3, h4⟩
  · exact .inl h
  · exact .inr ⟨b, o, cs, h1, by rw [rdl (by simp [h2]), h2], h3, h4⟩
theorem SOwn.mono {H L : AH} {v : Value} {s : Nat} {xs : List (List Value)} (h : SOwn H v s xs) : SOwn (H ++ L) v s xs := by
  rcases h with h | ⟨b, o, cs, h1, h2, h3, h4⟩
  · exact .inl h
  · exact .inr ⟨b, o, cs, h1, gtl h2, h3, h4⟩
theorem SOwn.same {H H' : AH} {v : Value} {s : Nat} {xs : List (List Value)} (h : SOwn H v s xs) (hs : ∀ b, blkOf v = some b → H'[b]? = H[b]?) : SOwn H' v s xs := by
  rcases h with h | ⟨b, o, cs, h1, h2, h3, h4⟩
  · exact .inl h
  · exact .inr ⟨b, o, cs, h1, by rw [hs b (by rw [h1]; rfl)]; exact h2, h3, h4⟩
theorem row_idx {s i j i' j' : Nat} (h1 : j < s) (h2 : j' < s) (h : i * s + j = i' * s + j') : i = i' ∧ j = j' := by
  have hs : 0 < s := by omega
  have e1 : (i * s + j) / s = i := by rw [Nat.mul_comm, Nat.mul_add_div hs, Nat.div_eq_of_lt h1, Nat.add_zero]
  have e2 : (i' * s + j') / s = i' := by rw [Nat.mul_comm, Nat.mul_add_div hs, Nat.div_eq_of_lt h2, Nat.add_zero]
  have : i = i' := by rw [← e1, ← e2, h]
  subst this
  exact ⟨rfl, by omega⟩
theorem row_lt {s i n : Nat} (h : i < n) : i * s + s ≤ n * s := by
  have : (i + 1) * s ≤ n * s := Nat.mul_le_mul_right s h
  rw [Nat.add_mul, Nat.one_mul] at this
  exact this
theorem SRow.op {H : AH} {v : Value} {s : Nat} {xs : List (List Value)} (h : SRow H v s xs) : ∃ a c, v = .slice a xs.length c ∧ (0 < xs.length → ∃ b o cs, a = some ⟨b, o, none⟩ ∧ c = s ∧ rd H b = some cs ∧ o + xs.length * s ≤ cs.length ∧ ∀ (i : Nat) x, xs[i]? = some x → x.length = s ∧ ∀ (j : Nat) y, x[j]? = some y → cs[o + i * s + j]? = some y) := by
  rcases h with ⟨rfl, rfl⟩ | ⟨b, o, cs, rfl, h1, h2, h3⟩
  · exact ⟨none, 0, rfl, fun h => by simp at h⟩
  · exact ⟨_, _, rfl, fun _ => ⟨b, o, cs, rfl, rfl, h1, h2, h3⟩⟩
/-- A whole element. -/
theorem aggAt_row {cs x : List Value} {o s : Nat} (hx : x.length = s) (hlen : o + s ≤ cs.length) (h : ∀ (j : Nat) y, x[j]? = some y → cs[o + j]? = some y) : aggAt s o cs = some (.agg x.toArray) := by
  unfold aggAt
  rw [if_pos hlen]
  have : (cs.drop o).take s = x := by
    refine List.ext_getElem? fun j => ?_
    rcases Nat.lt_or_ge j s with h1 | h1
    · rw [List.getElem?_take_of_lt h1, List.getElem?_drop, h j _ (List.getElem?_eq_getElem (by omega))]
      exact (List.getElem?_eq_getElem (by omega)).symm
    · rw [List.getElem?_eq_none (by simp; omega), List.getElem?_eq_none (by omega)]
  rw [this]
/-- A cell of an element is written. -/
theorem SOwn.set {H : AH} {b o s : Nat} {cs : List Value} {xs : List (List Value)} {i j : Nat} {x : List Value} {y : Value} (hb : H[b]? = some ⟨cs, .own⟩) (hlen : o + xs.length * s ≤ cs.length)
    (hc : ∀ (i : Nat) x, xs[i]? = some x → x.length = s ∧ ∀ (j : Nat) y, x[j]? = some y → cs[o + i * s + j]? = some y) (hx : xs[i]? = some x) (hj : j < s) :
    SOwn (H.set b ⟨cs.set (o + i * s + j) y, .own⟩) (.slice (some ⟨b, o, none⟩) xs.length s) s (xs.set i (x.set j y)) := by
  have hbl : b < H.length := (List.getElem?_eq_some_iff.1 hb).1
  have hil : i < xs.length := (List.getElem?_eq_some_iff.1 hx).1
  refine .inr ⟨b, o, _, by simp, List.getElem?_set_self hbl, by simpa using hlen, ?_⟩
  intro i' x' hx'
  rw [List.getElem?_set] at hx'
  by_cases e : i = i'
  · subst e
    rw [if_pos rfl, if_pos hil] at hx'
    cases hx'
    have h0 := hc i x hx
    refine ⟨by simpa using h0.1, fun j' y' hy => ?_⟩
    rw [List.getElem?_set] at hy ⊢
    by_cases e2 : j = j'
    · subst e2
      rw [if_pos rfl, if_pos (by omega)] at hy
      cases hy
      have := row_lt (s := s) hil
      rw [if_pos rfl, if_pos (by omega)]
    · rw [if_neg e2] at hy
      rw [if_neg (by omega)]
      exact h0.2 j' y' hy
  · rw [if_neg e] at hx'
    have h0 := hc i' x' hx'
    refine ⟨h0.1, fun j' y' hy => ?_⟩
    have hj' : j' < s := by rw [← h0.1]; exact (List.getElem?_eq_some_iff.1 hy).1
    rw [List.getElem?_set, if_neg (fun h => e (row_idx hj hj' (by omega)).1)]
    exact h0.2 j' y' hy
/-- Vars, as cells: each letter's flag and its array's two rows. -/
abbrev VR3 := Bool × Value × Value
def OkV (H : AH) (x : VR3) : Prop := OkI H x.2.1 ∧ OkI H x.2.2 ∧ (rowI H x.2.1).length < 4611686018427387904 ∧ (rowI H x.2.2).length < 4611686018427387904
theorem OkV.mono {H L : AH} {x : VR3} (h : OkV H x) : OkV (H ++ L) x := ⟨h.1.mono, h.2.1.mono, by rw [rowI_mono h.1]; exact h.2.2.1, by rw [rowI_mono h.2.1]; exact h.2.2.2⟩
def Dj (v w : Value) : Prop := ∀ b, blkOf v = some b → blkOf w ≠ some b
theorem Dj.symm {v w : Value} (h : Dj v w) : Dj w v := fun b h1 h2 => h b h2 h1
theorem OwnRow.same {H H' : AH} {v : Value} {l : List Int} (h : OwnRow H v l) (hs : ∀ b, blkOf v = some b → H'[b]? = H[b]?) : OwnRow H' v l := by
  rcases h with h | ⟨b, o, cs, h1, h2, h3, h4⟩
  · exact .inl h
  · exact .inr ⟨b, o, cs, h1, by rw [hs b (by rw [h1]; rfl)]; exact h2, h3, h4⟩
theorem OwnRow.rowI {H : AH} {v : Value} {l : List Int} (h : OwnRow H v l) : rowI H v = l := h.int.row
theorem putI_dj {H : AH} {v w : Value} {l : List Int} (h : Dj v w) : ∀ b, blkOf w = some b → (putI H v l)[b]? = H[b]? := fun b hb => putI_get fun h2 => h b h2 hb
theorem OwnRow.isSlice {H : AH} {v : Value} {l : List Int} (h : OwnRow H v l) : ∃ a c, v = .slice a l.length c := by
  obtain ⟨a, c, h1, _⟩ := h.int.op
  exact ⟨a, c, h1⟩
inductive CV where
  | i (n : Int)
  | b (x : Bool)
  | r (l : List Int)
  deriving DecidableEq
inductive CK where
  | i
  | b
  | r
  | w
def cv (H : AH) : Value → CV
  | .int _ n => .i n
  | .bool x => .b x
  | v => .r (rowI H v)
theorem cv_int {H : AH} {k : IntKind} {n : Int} : cv H (.int k n) = .i n := rfl
def KOk (H : AH) : CK → Value → Prop
  | .i, y => ∃ n, y = .int .i64 n
  | .b, y => ∃ x, y = .bool x
  | .r, y => OkI H y ∧ (rowI H y).length < 1073741825
  | .w, y => OkI H y ∧ (rowI H y).length ≤ 9223372036854775807
def All2 (H : AH) : List CK → List Value → Prop
  | [], x => x = []
  | k :: ks, x => ∃ y r, x = y :: r ∧ KOk H k y ∧ All2 H ks r
theorem OkI.slice {H : AH} {y : Value} (h : OkI H y) : ∃ a c, y = .slice a (rowI H y).length c := by
  obtain ⟨a, c, e, _⟩ := IntRow.op h
  exact ⟨a, c, e⟩
theorem cv_row {H : AH} {y : Value} (h : OkI H y) : cv H y = .r (rowI H y) := by
  obtain ⟨a, c, e⟩ := h.slice
  rw [e]; rfl
theorem rowI_same {H H' : AH} {v : Value} (hs : ∀ b, blkOf v = some b → rd H' b = rd H b) : rowI H' v = rowI H v := by
  unfold rowI
  split
  · rename_i b o a n c
    rw [hs b rfl]
  · rfl
theorem OkI.same {H H' : AH} {v : Value} (h : OkI H v) (hs : ∀ b, blkOf v = some b → rd H' b = rd H b) : OkI H' v := (IntRow.same h fun b o n c e => hs b (by rw [e]; rfl)).ok
theorem cv_same {H H' : AH} {v : Value} (hs : ∀ b, blkOf v = some b → rd H' b = rd H b) : cv H' v = cv H v := by
  unfold cv
  split
  · rfl
  · rfl
  · rw [rowI_same hs]
theorem KOk.same {H H' : AH} {k : CK} {v : Value} (h : KOk H k v) (hs : ∀ b, blkOf v = some b → rd H' b = rd H b) : KOk H' k v := by
  cases k with
  | i => exact h
  | b => exact h
  | r => exact ⟨h.1.same hs, by rw [rowI_same hs]; exact h.2⟩
  | w => exact ⟨h.1.same hs, by rw [rowI_same hs]; exact h.2⟩
theorem KOk.rdable {H : AH} {k : CK} {v : Value} (h : KOk H k v) : ∀ b, blkOf v = some b → (rd H b).isSome = true := by
  intro b hb
  cases k with
  | i => obtain ⟨n, rfl⟩ := h; simp [blkOf] at hb
  | b => obtain ⟨n, rfl⟩ := h; simp [blkOf] at hb
  | r =>
    rcases h.1 with ⟨e, _⟩ | ⟨b', o, cs, e, h2, _⟩
    · rw [e] at hb; simp [blkOf] at hb
    · rw [e] at hb; simp [blkOf] at hb; subst hb; simp [h2]
  | w =>
    rcases h.1 with ⟨e, _⟩ | ⟨b', o, cs, e, h2, _⟩
    · rw [e] at hb; simp [blkOf] at hb
    · rw [e] at hb; simp [blkOf] at hb; subst hb; simp [h2]
theorem KOk.mono {H L : AH} {k : CK} {v : Value} (h : KOk H k v) : KOk (H ++ L) k v := h.same fun b hb => rdl (h.rdable b hb)
theorem cv_mono {H L : AH} {k : CK} {v : Value} (h : KOk H k v) : cv (H ++ L) v = cv H v := cv_same fun b hb => rdl (h.rdable b hb)
theorem All2.len {H : AH} : ∀ {ks : List CK} {x : List Value}, All2 H ks x → x.length = ks.length
  | [], x, h => by cases h; rfl
  | k :: ks, x, ⟨y, r, e, _, h⟩ => by rw [e, List.length_cons, h.len, List.length_cons]
theorem All2.get {H : AH} : ∀ {ks : List CK} {x : List Value}, All2 H ks x → ∀ (c : Nat) k y, ks[c]? = some k → x[c]? = some y → KOk H k y
  | [], x, h, c, k, y, hk, _ => by simp at hk
  | k :: ks, x, ⟨y, r, e, h1, h⟩, 0, k', y', hk, hy => by
    subst e; simp at hk hy; subst hk; subst hy; exact h1
  | k :: ks, x, ⟨y, r, e, h1, h⟩, c + 1, k', y', hk, hy => by
    subst e; simp at hk hy; exact h.get c k' y' hk hy
theorem All2.of {H : AH} : ∀ {ks : List CK} {x : List Value}, x.length = ks.length → (∀ (c : Nat) k y, ks[c]? = some k → x[c]? = some y → KOk H k y) → All2 H ks x
  | [], x, hl, _ => by
    cases x with
    | nil => rfl
    | cons y r => simp at hl
  | k :: ks, x, hl, h => by
    cases x with
    | nil => simp at hl
    | cons y r => exact ⟨y, r, rfl, h 0 k y rfl rfl, All2.of (by simpa using hl) fun c k' y' hk hy => h (c + 1) k' y' (by simpa using hk) (by simpa using hy)⟩
theorem All2.mono {H L : AH} {ks : List CK} {x : List Value} (h : All2 H ks x) : All2 (H ++ L) ks x := All2.of h.len fun c k y hk hy => (h.get c k y hk hy).mono
theorem All2.mapcv {H L : AH} {ks : List CK} {x : List Value} (h : All2 H ks x) : x.map (cv (H ++ L)) = x.map (cv H) := by
  refine List.map_congr_left fun y hy => ?_
  obtain ⟨c, hc, e⟩ := List.mem_iff_getElem.1 hy
  have hl := h.len
  exact cv_mono (h.get c ks[c] y (List.getElem?_eq_getElem (by omega)) (by rw [List.getElem?_eq_getElem hc, e]))
def cvs (H : AH) (xs : List Value) : List CV := xs.map (cv H)
/-- A slice of 'n' elements with cells of the kinds 'ks' each, that may be read; its cells are 'xs'. -/
structure FRow (H : AH) (v : Value) (ks : List CK) (n : Nat) (xs : List Value) : Prop where
  len : xs.length = n * ks.length
  row : (v = .slice none 0 0 ∧ n = 0) ∨ ∃ b o cs, v = .slice (some ⟨b, o, none⟩) n ks.length ∧ rd H b = some cs ∧ o + n * ks.length ≤ cs.length ∧ ∀ (j : Nat) y, xs[j]? = some y → cs[o + j]? = some y
  ok : ∀ (i c : Nat) k y, i < n → ks[c]? = some k → xs[i * ks.length + c]? = some y → KOk H k y
theorem FRow.cell {H : AH} {v : Value} {ks : List CK} {n : Nat} {xs : List Value} (h : FRow H v ks n xs) {j : Nat} {y : Value} (hy : xs[j]? = some y) : ∃ k, KOk H k y := by
  have hj := (List.getElem?_eq_some_iff.1 hy).1
  rw [h.len] at hj
  have hk : 0 < ks.length := by
    rcases Nat.eq_zero_or_pos ks.length with e | e
    · rw [e] at hj; omega
    · exact e
  have h1 : j / ks.length < n := Nat.div_lt_of_lt_mul (by rw [Nat.mul_comm]; exact hj)
  have h2 : j % ks.length < ks.length := Nat.mod_lt _ hk
  refine ⟨_, h.ok (j / ks.length) (j % ks.length) _ y h1 (List.getElem?_eq_getElem h2) ?_⟩
  rw [Nat.mul_comm, Nat.div_add_mod]; exact hy
theorem FRow.same {H H' : AH} {v : Value} {ks : List CK} {n : Nat} {xs : List Value} (h : FRow H v ks n xs) (hs : ∀ b, (blkOf v = some b ∨ ∃ y ∈ xs, blkOf y = some b) → rd H' b = rd H b) : FRow H' v ks n xs := by
  refine ⟨h.len, ?_, fun i c k y hi hk hy => (h.ok i c k y hi hk hy).same fun b hb => hs b (.inr ⟨y, List.mem_of_getElem? hy, hb⟩)⟩
  rcases h.row with h1 | ⟨b, o, cs, h1, h2, h3⟩
  · exact .inl h1
  · exact .inr ⟨b, o, cs, h1, by rw [hs b (.inl (by rw [h1]; rfl))]; exact h2, h3⟩
theorem FRow.cvs_same {H H' : AH} {xs : List Value} (hs : ∀ b, (∃ y ∈ xs, blkOf y = some b) → rd H' b = rd H b) : cvs H' xs = cvs H xs :=
  List.map_congr_left fun y hy => cv_same fun b hb => hs b ⟨y, hy, hb⟩
theorem FRow.rdable {H : AH} {v : Value} {ks : List CK} {n : Nat} {xs : List Value} (h : FRow H v ks n xs) : ∀ b, (blkOf v = some b ∨ ∃ y ∈ xs, blkOf y = some b) → (rd H b).isSome = true := by
  rintro b (hb | ⟨y, hy, hb⟩)
  · rcases h.row with ⟨h1, _⟩ | ⟨b', o, cs, h1, h2, h3⟩
    · rw [h1] at hb; simp [blkOf] at hb
    · rw [h1] at hb; simp [blkOf] at hb; subst hb; simp [h2]
  · obtain ⟨j, hj⟩ := List.mem_iff_getElem?.1 hy
    obtain ⟨k, hk⟩ := h.cell hj
    exact hk.rdable b hb
theorem FRow.mono {H L : AH} {v : Value} {ks : List CK} {n : Nat} {xs : List Value} (h : FRow H v ks n xs) : FRow (H ++ L) v ks n xs := h.same fun b hb => rdl (h.rdable b hb)
theorem FRow.vals {H L : AH} {v : Value} {ks : List CK} {n : Nat} {xs : List Value} (h : FRow H v ks n xs) : cvs (H ++ L) xs = cvs H xs := FRow.cvs_same fun b hb => rdl (h.rdable b (.inr hb))
/-- What an element is. -/
def elm (s : Nat) (xs : List Value) (i : Nat) : List Value := (xs.drop (i * s)).take s
theorem elm_get {s : Nat} {xs : List Value} {i c : Nat} (hc : c < s) : (elm s xs i)[c]? = xs[i * s + c]? := by
  unfold elm
  rw [List.getElem?_take_of_lt hc, List.getElem?_drop]
theorem FRow.elem {H : AH} {v : Value} {ks : List CK} {n : Nat} {xs : List Value} (h : FRow H v ks n xs) {i : Nat} (hi : i < n) : All2 H ks (elm ks.length xs i) := by
  have hl := h.len
  have hr := row_lt (s := ks.length) hi
  refine All2.of ?_ fun c k y hk hy => ?_
  · simp [elm]; omega
  · have hc := (List.getElem?_eq_some_iff.1 hk).1
    rw [elm_get hc] at hy
    exact h.ok i c k y hi hk hy
theorem FRow.op {H : AH} {v : Value} {ks : List CK} {n : Nat} {xs : List Value} (h : FRow H v ks n xs) : ∃ a c, v = .slice a n c ∧ (0 < n → ∃ b o cs, a = some ⟨b, o, none⟩ ∧ c = ks.length ∧ rd H b = some cs ∧ o + n * ks.length ≤ cs.length ∧
    ∀ i, i < n → aggAt ks.length (o + i * ks.length) cs = some (.agg (elm ks.length xs i).toArray) ∧ ∀ (c : Nat) y, (elm ks.length xs i)[c]? = some y → cs[o + i * ks.length + c]? = some y) := by
  have hl := h.len
  rcases h.row with ⟨rfl, rfl⟩ | ⟨b, o, cs, rfl, h1, h2, h3⟩
  · exact ⟨none, 0, rfl, fun h => by omega⟩
  · refine ⟨_, _, rfl, fun _ => ⟨b, o, cs, rfl, rfl, h1, h2, fun i hi => ?_⟩⟩
    have hr := row_lt (s := ks.length) hi
    have hc : ∀ (c : Nat) y, (elm ks.length xs i)[c]? = some y → cs[o + i * ks.length + c]? = some y := by
      intro c y hy
      have hlt : c < ks.length := by
        have := (List.getElem?_eq_some_iff.1 hy).1
        simp [elm] at this
        omega
      rw [elm_get hlt] at hy
      rw [Nat.add_assoc]
      exact h3 _ y hy
    refine ⟨aggAt_row (h.elem hi).len (by omega) hc, hc⟩
/-- A row whose cells own what they point to, each by itself. -/
def OwnC (H : AH) (y : Value) : Prop := (∃ n, y = .int .i64 n) ∨ (∃ x, y = .bool x) ∨ OwnRow H y (rowI H y)
structure OT (H : AH) (v : Value) (ks : List CK) (n : Nat) (xs : List Value) : Prop where
  len : xs.length = n * ks.length
  row : (v = .slice none 0 0 ∧ n = 0) ∨ ∃ b o cs, v = .slice (some ⟨b, o, none⟩) n ks.length ∧ H[b]? = some ⟨cs, .own⟩ ∧ o + n * ks.length ≤ cs.length ∧ ∀ (j : Nat) y, xs[j]? = some y → cs[o + j]? = some y
  ok : ∀ (i c : Nat) k y, i < n → ks[c]? = some k → xs[i * ks.length + c]? = some y → KOk H k y
  own : ∀ (j : Nat) y, xs[j]? = some y → OwnC H y
  out : ∀ (j : Nat) y, xs[j]? = some y → Dj v y
  dif : ∀ (i j : Nat) x y, i ≠ j → xs[i]? = some x → xs[j]? = some y → Dj x y
theorem OT.frow {H : AH} {v : Value} {ks : List CK} {n : Nat} {xs : List Value} (h : OT H v ks n xs) : FRow H v ks n xs := by
  refine ⟨h.len, ?_, h.ok⟩
  rcases h.row with h1 | ⟨b, o, cs, h1, h2, h3⟩
  · exact .inl h1
  · exact .inr ⟨b, o, cs, h1, rd_own h2, h3⟩
theorem get_rd {H H' : AH} {b : Nat} (h : H'[b]? = H[b]?) : rd H' b = rd H b := by unfold rd; rw [h]
theorem OwnC.same {H H' : AH} {y : Value} (h : OwnC H y) (hs : ∀ b, blkOf y = some b → H'[b]? = H[b]?) : OwnC H' y := by
  rcases h with h | h | h
  · exact .inl h
  · exact .inr (.inl h)
  · have := h.same hs
    exact .inr (.inr (by rw [this.rowI]; exact this))
theorem OT.same {H H' : AH} {v : Value} {ks : List CK} {n : Nat} {xs : List Value} (h : OT H v ks n xs) (hs : ∀ b, (blkOf v = some b ∨ ∃ y ∈ xs, blkOf y = some b) → H'[b]? = H[b]?) : OT H' v ks n xs := by
  refine ⟨h.len, ?_, (h.frow.same fun b hb => get_rd (hs b hb)).ok, fun j y hy => (h.own j y hy).same fun b hb => hs b (.inr ⟨y, List.mem_of_getElem? hy, hb⟩), h.out, h.dif⟩
  rcases h.row with h1 | ⟨b, o, cs, h1, h2, h3⟩
  · exact .inl h1
  · exact .inr ⟨b, o, cs, h1, by rw [hs b (.inl (by rw [h1]; rfl))]; exact h2, h3⟩
theorem OwnRow.lt {H : AH} {v : Value} {l : List Int} (h : OwnRow H v l) : ∀ b, blkOf v = some b → b < H.length := by
  rcases h with ⟨rfl, _⟩ | ⟨b, o, cs, rfl, h2, _⟩
  · intro b h; simp [blkOf] at h
  · intro b' h
    simp [blkOf] at h
    subst h
    exact (List.getElem?_eq_some_iff.1 h2).1
theorem OwnC.lt {H : AH} {y : Value} (h : OwnC H y) : ∀ b, blkOf y = some b → b < H.length := by
  rcases h with ⟨n, rfl⟩ | ⟨n, rfl⟩ | h
  · intro b h; simp [blkOf] at h
  · intro b h; simp [blkOf] at h
  · exact h.lt
theorem OT.lt {H : AH} {v : Value} {ks : List CK} {n : Nat} {xs : List Value} (h : OT H v ks n xs) : ∀ b, (blkOf v = some b ∨ ∃ y ∈ xs, blkOf y = some b) → b < H.length := by
  rintro b (hb | ⟨y, hy, hb⟩)
  · rcases h.row with ⟨h1, _⟩ | ⟨b', o, cs, h1, h2, h3⟩
    · rw [h1] at hb; simp [blkOf] at hb
    · rw [h1] at hb; simp [blkOf] at hb; subst hb; exact (List.getElem?_eq_some_iff.1 h2).1
  · obtain ⟨j, hj⟩ := List.mem_iff_getElem?.1 hy
    exact (h.own j y hj).lt b hb
theorem OT.mono {H L : AH} {v : Value} {ks : List CK} {n : Nat} {xs : List Value} (h : OT H v ks n xs) : OT (H ++ L) v ks n xs := h.same fun b hb => List.getElem?_append_left (h.lt b hb)
def cnt1 : CV → Nat | .i _ => 1 | .b _ => 1 | .r l => l.length
def mark1 : CV → Int → CV | .i _, k => .i k | .b _, k => .b (k % 3 == 0) | .r l, k => .r (mks k l.length)
def markF : List CV → Int → List CV
  | [], _ => []
  | x :: r, k => mark1 x k :: markF r (k + cnt1 x)
def cntF (l : List CV) : Nat := (l.map cnt1).sum
theorem markF_append : ∀ (l m : List CV) (k : Int), markF (l ++ m) k = markF l k ++ markF m (k + cntF l)
  | [], m, k => by simp [markF, cntF]
  | x :: l, m, k => by
    simp only [List.cons_append, markF, markF_append l m]
    rw [show k + (cnt1 x : Int) + cntF l = k + cntF (x :: l) by simp only [cntF, List.map_cons, List.sum_cons]; omega]
theorem cntF_append {l m : List CV} : cntF (l ++ m) = cntF l + cntF m := by simp [cntF]
theorem markF_len : ∀ (l : List CV) (k : Int), (markF l k).length = l.length
  | [], _ => rfl
  | x :: l, k => by simp [markF, markF_len l]
structure MC (H : AH) (v : Value) (ks : List CK) (n : Nat) (xs : List Value) (k : Int) (p : Nat) (q : Int) (ys : List Value) (H' : AH) : Prop where
  ot : OT H' v ks n ys
  blk : ys.map blkOf = xs.map blkOf
  len : H'.length = H.length
  frame : ∀ b, ¬ (blkOf v = some b ∨ ∃ y ∈ xs, blkOf y = some b) → H'[b]? = H[b]?
  vals : cvs H' ys = markF ((cvs H xs).take p) k ++ (cvs H xs).drop p
  cnt : q = k + cntF ((cvs H xs).take p)
theorem MC.done {H H' : AH} {v : Value} {ks : List CK} {n p : Nat} {xs ys : List Value} {k q : Int} (h : MC H v ks n xs k p q ys H') (hp : xs.length ≤ p) : cvs H' ys = markF (cvs H xs) k ∧ q = k + cntF (cvs H xs) := by
  have e : (cvs H xs).take p = cvs H xs := List.take_of_length_le (by simp [cvs]; omega)
  have e2 : (cvs H xs).drop p = [] := List.drop_of_length_le (by simp [cvs]; omega)
  have h1 := h.vals
  have h2 := h.cnt
  rw [e] at h1 h2
  rw [e2, List.append_nil] at h1
  exact ⟨h1, h2⟩
theorem MC.bk {H H' : AH} {v : Value} {ks : List CK} {n p : Nat} {xs ys : List Value} {k q : Int} (h : MC H v ks n xs k p q ys H') {b : Nat} : (∃ y ∈ ys, blkOf y = some b) ↔ ∃ y ∈ xs, blkOf y = some b := by
  have e : ∀ zs : List Value, (∃ y ∈ zs, blkOf y = some b) ↔ some b ∈ zs.map blkOf := by
    intro zs; simp only [List.mem_map]
  rw [e, e, h.blk]
theorem MC.rest {H H' : AH} {v : Value} {ks : List CK} {n p : Nat} {xs ys : List Value} {k q : Int} (h : MC H v ks n xs k p q ys H') {y : Value} (hy : ys[p]? = some y) : (cvs H xs)[p]? = some (cv H' y) := by
  have h1 := congrArg (fun l : List CV => l[p]?) h.vals
  have hl : ys.length = xs.length := by have := congrArg List.length h.blk; simpa using this
  have hp := (List.getElem?_eq_some_iff.1 hy).1
  have e : (markF ((cvs H xs).take p) k).length = p := by rw [markF_len]; simp [cvs]; omega
  simp only [List.getElem?_append_right (Nat.le_of_eq e), e, Nat.sub_self, List.getElem?_drop, Nat.add_zero] at h1
  rw [← h1]
  simp [cvs, hy]
theorem MC.take {H H' : AH} {v : Value} {ks : List CK} {n p : Nat} {xs ys : List Value} {k q : Int} (h : MC H v ks n xs k p q ys H') {y : Value} (hy : ys[p]? = some y) :
    (cvs H xs).take (p + 1) = (cvs H xs).take p ++ [cv H' y] ∧ (cvs H xs).drop p = cv H' y :: (cvs H xs).drop (p + 1) := by
  have h1 := h.rest hy
  obtain ⟨h2, h3⟩ := List.getElem?_eq_some_iff.1 h1
  rw [← h3]
  exact ⟨List.take_succ_eq_append_getElem h2, List.drop_eq_getElem_cons h2⟩
theorem int_kind {H : AH} {k : CK} {n m : Int} (h : KOk H k (.int .i64 n)) : KOk H k (.int .i64 m) := by
  cases k with
  | i => exact ⟨m, rfl⟩
  | b => obtain ⟨x, hx⟩ := h; cases hx
  | r => obtain ⟨a, c, e⟩ := h.1.slice; cases e
  | w => obtain ⟨a, c, e⟩ := h.1.slice; cases e
theorem bool_kind {H : AH} {k : CK} {n m : Bool} (h : KOk H k (.bool n)) : KOk H k (.bool m) := by
  cases k with
  | i => obtain ⟨x, hx⟩ := h; cases hx
  | b => exact ⟨m, rfl⟩
  | r => obtain ⟨a, c, e⟩ := h.1.slice; cases e
  | w => obtain ⟨a, c, e⟩ := h.1.slice; cases e
/-- A cell that is an int or a bool is written. -/
theorem MC.scal {H H' : AH} {v : Value} {ks : List CK} {n p : Nat} {xs ys : List Value} {k q : Int} (h : MC H v ks n xs k p q ys H') {b o : Nat} {c : Option Addr} {cs : List Value} {y z : Value}
    (hv : v = .slice (some ⟨b, o, none⟩) n ks.length) (hb : H'[b]? = some ⟨cs, .own⟩) (hlen : o + n * ks.length ≤ cs.length) (hc : ∀ (j : Nat) y, ys[j]? = some y → cs[o + j]? = some y) (hy : ys[p]? = some y)
    (hz : (∃ m, y = .int .i64 m ∧ z = .int .i64 q) ∨ (∃ m, y = .bool m ∧ z = .bool (q % 3 == 0))) :
    MC H v ks n xs k (p + 1) (q + 1) (ys.set p z) (H'.set b ⟨cs.set (o + p) z, .own⟩) := by
  have hp := (List.getElem?_eq_some_iff.1 hy).1
  have hyl := h.ot.len
  have hbl : b < H'.length := (List.getElem?_eq_some_iff.1 hb).1
  have hvb : blkOf v = some b := by rw [hv]; rfl
  have hbz : blkOf z = none := by rcases hz with ⟨m, _, rfl⟩ | ⟨m, _, rfl⟩ <;> rfl
  have hby : blkOf y = none := by rcases hz with ⟨m, rfl, _⟩ | ⟨m, rfl, _⟩ <;> rfl
  have hs : ∀ g, g ≠ b → (H'.set b ⟨cs.set (o + p) z, .own⟩)[g]? = H'[g]? := fun g hg => List.getElem?_set_ne (Ne.symm hg)
  have hsy : ∀ (j : Nat) w, ys[j]? = some w → ∀ g, blkOf w = some g → (H'.set b ⟨cs.set (o + p) z, .own⟩)[g]? = H'[g]? := fun j w hw g hg => hs g (by rintro rfl; exact h.ot.out j w hw g hvb hg)
  have hget : ∀ (j : Nat) w, (ys.set p z)[j]? = some w → (j = p ∧ w = z) ∨ (j ≠ p ∧ ys[j]? = some w) := by
    intro j w hw
    rw [List.getElem?_set] at hw
    split at hw
    · rename_i e
      subst e
      first
        | (cases hw; exact .inl ⟨rfl, rfl⟩)
        | (rw [if_pos hp] at hw; cases hw; exact .inl ⟨rfl, rfl⟩)
    · rename_i e
      exact .inr ⟨fun h => e h.symm, hw⟩
  refine ⟨⟨by simpa using hyl, ?_, ?_, ?_, ?_, ?_⟩, ?_, ?_, ?_, ?_, ?_⟩
  · refine .inr ⟨b, o, _, hv, List.getElem?_set_self hbl, by simpa using hlen, fun j w hw => ?_⟩
    rcases hget j w hw with ⟨rfl, rfl⟩ | ⟨h1, h2⟩
    · rw [List.getElem?_set, if_pos rfl, if_pos (by omega)]
    · rw [List.getElem?_set, if_neg (by omega)]
      exact hc j w h2
  · intro i c k' w hi hk hw
    rcases hget _ w hw with ⟨h1, rfl⟩ | ⟨h1, h2⟩
    · have hy' : ys[i * ks.length + c]? = some y := by rw [h1]; exact hy
      have hold := h.ot.ok i c k' y hi hk hy'
      rcases hz with ⟨m, rfl, rfl⟩ | ⟨m, rfl, rfl⟩
      · exact (int_kind hold : KOk H' k' _).same fun g hg => by simp [blkOf] at hg
      · exact (bool_kind hold : KOk H' k' _).same fun g hg => by simp [blkOf] at hg
    · exact (h.ot.ok i c k' w hi hk h2).same fun g hg => get_rd (hsy _ w h2 g hg)
  · intro j w hw
    rcases hget j w hw with ⟨h1, rfl⟩ | ⟨h1, h2⟩
    · rcases hz with ⟨m, _, rfl⟩ | ⟨m, _, rfl⟩
      · exact .inl ⟨_, rfl⟩
      · exact .inr (.inl ⟨_, rfl⟩)
    · exact (h.ot.own j w h2).same (hsy j w h2)
  · intro j w hw
    rcases hget j w hw with ⟨h1, rfl⟩ | ⟨h1, h2⟩
    · intro g _ hg; rw [hbz] at hg; cases hg
    · exact h.ot.out j w h2
  · intro i j x w hij hx hw
    rcases hget i x hx with ⟨h1, rfl⟩ | ⟨h1, h2⟩
    · intro g hg; rw [hbz] at hg; cases hg
    · rcases hget j w hw with ⟨h3, rfl⟩ | ⟨h3, h4⟩
      · intro g _ hg; rw [hbz] at hg; cases hg
      · exact h.ot.dif i j x w hij h2 h4
  · rw [List.map_set, hbz, ← h.blk]
    refine List.ext_getElem? fun j => ?_
    rw [List.getElem?_set]
    split
    · rename_i e
      subst e
      rw [if_pos (by simpa using hp)]
      simp [hy, hby]
    · rfl
  · rw [List.length_set, h.len]
  · intro g hg
    rw [hs g (by rintro rfl; exact hg (.inl hvb))]
    exact h.frame g hg
  · obtain ⟨e1, e2⟩ := h.take hy
    have e3 : cvs (H'.set b ⟨cs.set (o + p) z, .own⟩) (ys.set p z) = (cvs H' ys).set p (cv H' z) := by
      refine List.ext_getElem? fun j => ?_
      simp only [cvs, List.getElem?_map, List.getElem?_set, List.length_map]
      split
      · rename_i e
        subst e
        rcases hz with ⟨m, _, rfl⟩ | ⟨m, _, rfl⟩ <;> simp [hp, cv]
      · cases hj : ys[j]? with
        | none => rfl
        | some w => simp only [Option.map_some, cv_same fun g hg => get_rd (hsy j w hj g hg)]
    have e4 : (markF ((cvs H xs).take p) k).length = p := by
      rw [markF_len]
      have := congrArg List.length h.blk
      simp [cvs] at this ⊢
      omega
    rw [e3, h.vals, e1, markF_append, List.set_append_right _ _ (by omega), e4, Nat.sub_self, e2, List.set_cons_zero, List.append_assoc]
    congr 1
    have hcn := h.cnt
    simp only [markF, List.singleton_append, List.cons.injEq, and_true]
    rcases hz with ⟨m, rfl, rfl⟩ | ⟨m, rfl, rfl⟩
    · simp only [cv, mark1, ← hcn]
    · simp only [cv, mark1, ← hcn]
  · obtain ⟨e1, e2⟩ := h.take hy
    rw [e1, cntF_append, h.cnt]
    rcases hz with ⟨m, rfl, _⟩ | ⟨m, rfl, _⟩ <;> simp only [cntF, List.map_cons, List.map_nil, List.sum_cons, List.sum_nil, cv, cnt1] <;> omega
/-- A cell that is a row of ints is written. -/
theorem MC.ints {H H' : AH} {v : Value} {ks : List CK} {n p : Nat} {xs ys : List Value} {k q : Int} (h : MC H v ks n xs k p q ys H') {y : Value} (hy : ys[p]? = some y) (ho : OwnRow H' y (rowI H' y)) (hok : OkI H' y) :
    MC H v ks n xs k (p + 1) (q + (rowI H' y).length) ys (putI H' y (mks q (rowI H' y).length)) := by
  have hp := (List.getElem?_eq_some_iff.1 hy).1
  have hput := ho.put (xs := mks q (rowI H' y).length) mks_len
  have hsy : ∀ (j : Nat) w, j ≠ p → ys[j]? = some w → ∀ g, blkOf w = some g → (putI H' y (mks q (rowI H' y).length))[g]? = H'[g]? := fun j w hj hw => putI_dj (h.ot.dif p j y w (Ne.symm hj) hy hw)
  refine ⟨⟨h.ot.len, ?_, ?_, ?_, h.ot.out, h.ot.dif⟩, h.blk, by rw [putI_len, h.len], ?_, ?_, ?_⟩
  · rcases h.ot.row with h1 | ⟨b, o, cs, h1, h2, h3⟩
    · exact .inl h1
    · refine .inr ⟨b, o, cs, h1, ?_, h3⟩
      rw [putI_get (h.ot.out p y hy b (by rw [h1]; rfl))]
      exact h2
  · intro i c k' w hi hk hw
    have hold := h.ot.ok i c k' w hi hk hw
    by_cases e : i * ks.length + c = p
    · rw [e, hy] at hw
      cases hw
      cases k' with
      | i => obtain ⟨m, rfl⟩ := hold; obtain ⟨a, c, e⟩ := hok.slice; cases e
      | b => obtain ⟨m, rfl⟩ := hold; obtain ⟨a, c, e⟩ := hok.slice; cases e
      | r => exact ⟨hput.int.ok, by rw [hput.rowI, mks_len]; exact hold.2⟩
      | w => exact ⟨hput.int.ok, by rw [hput.rowI, mks_len]; exact hold.2⟩
    · exact hold.same fun g hg => get_rd (hsy _ w e hw g hg)
  · intro j w hw
    by_cases e : j = p
    · subst e
      rw [hy] at hw; cases hw
      exact .inr (.inr (by rw [hput.rowI]; exact hput))
    · exact (h.ot.own j w hw).same (hsy j w e hw)
  · intro g hg
    rw [putI_get, h.frame g hg]
    intro e
    exact hg (.inr (h.bk.1 ⟨y, List.mem_of_getElem? hy, e⟩))
  · obtain ⟨e1, e2⟩ := h.take hy
    have e3 : cvs (putI H' y (mks q (rowI H' y).length)) ys = (cvs H' ys).set p (.r (mks q (rowI H' y).length)) := by
      refine List.ext_getElem? fun j => ?_
      simp only [cvs, List.getElem?_map, List.getElem?_set, List.length_map]
      split
      · rename_i e
        subst e
        rw [hy, Option.map_some, cv_row hput.int.ok, hput.rowI]
      · rename_i e
        cases hj : ys[j]? with
        | none => rfl
        | some w => simp only [Option.map_some, cv_same fun g hg => get_rd (hsy j w (Ne.symm e) hj g hg)]
    have e4 : (markF ((cvs H xs).take p) k).length = p := by
      rw [markF_len]
      have := congrArg List.length h.blk
      simp [cvs] at this ⊢
      omega
    rw [e3, h.vals, e1, markF_append, List.set_append_right _ _ (by omega), e4, Nat.sub_self, e2, List.set_cons_zero, List.append_assoc]
    congr 1
    rw [cv_row hok]
    have hcn := h.cnt
    simp only [markF, mark1, List.singleton_append, List.cons.injEq, and_true, ← hcn]
  · obtain ⟨e1, e2⟩ := h.take hy
    rw [e1, cntF_append, h.cnt, cv_row hok]
    simp only [cntF, List.map_cons, List.map_nil, List.sum_cons, List.sum_nil, cnt1]; omega

theorem ext_of {H H' : AH} (hl : H.length ≤ H'.length) (hk : ∀ b, b < H.length → H'[b]? = H[b]?) : ∃ K, H' = H ++ K := by
  refine ⟨H'.drop H.length, List.ext_getElem? fun b => ?_⟩
  rcases Nat.lt_or_ge b H.length with h | h
  · rw [List.getElem?_append_left h, hk b h]
  · rw [List.getElem?_append_right h, List.getElem?_drop, Nat.add_sub_cancel' h]
/-- What append leaves of the heap. -/
structure App (H : AH) (v : Value) (H' : AH) (v' : Value) : Prop where
  len : H.length ≤ H'.length
  keep : ∀ b, b < H.length → blkOf v ≠ some b → H'[b]? = H[b]?
  new : ∀ b, blkOf v' = some b → blkOf v = some b ∨ H.length ≤ b
theorem App.ext {H0 H H' : AH} {v v' : Value} (h : App H v H' v') (h0 : ∃ K, H = H0 ++ K) (hv : ∀ b, blkOf v = some b → H0.length ≤ b) : ∃ K, H' = H0 ++ K := by
  obtain ⟨K, rfl⟩ := h0
  have hl := h.len
  rw [List.length_append] at hl
  refine ext_of (by omega) fun b hb => ?_
  rw [h.keep b (by rw [List.length_append]; omega) (fun e => by have := hv b e; omega), List.getElem?_append_left hb]
theorem IntRow.cl {H : AH} {v : Value} {l : List Int} (h : IntRow H v l) : cl H 1 v = some (ints l) ∧ lenS v = l.length := by
  rcases h with ⟨rfl, rfl⟩ | ⟨b, o, cs, rfl, h1, h2, h3⟩
  · exact ⟨rfl, rfl⟩
  · refine ⟨?_, rfl⟩
    simp only [Go.Proofs.Ytdagncfnkenbfaa.AM.cl, h1, Option.bind_some, Nat.mul_one, if_pos h2, h3]
theorem OwnRow.ownOk {H : AH} {v : Value} {l : List Int} (h : OwnRow H v l) : Go.Proofs.Ytdagncfnkenbfaa.AM.ownOk v 1 H = true := by
  rcases h with ⟨rfl, rfl⟩ | ⟨b, o, cs, rfl, h1, h2, h3⟩
  · rfl
  · simp [Go.Proofs.Ytdagncfnkenbfaa.AM.ownOk, h1]
theorem ints_leaf {l : List Int} : (ints l).all leaf = true := by
  simp [ints, leaf]
theorem ints_app {l m : List Int} : ints l ++ ints m = ints (l ++ m) := by simp [ints]
theorem kill_keep {H : AH} {v : Value} {b : Nat} (h : blkOf v ≠ some b) : (kill v H)[b]? = H[b]? := by
  unfold kill
  split
  · rename_i a n c
    rw [List.getElem?_set_ne]
    intro e
    apply h
    rw [← e]
    rfl
  · rfl
theorem kill_len2 {H : AH} {v : Value} : (kill v H).length = H.length := by unfold kill; split <;> simp
theorem oA_own {H : AH} {v w : Value} {l m : List Int} {Φ : Value → AH → Prop} (hv : OwnRow H v l) (hw : IntRow H w m) (hl : l.length + m.length ≤ 1073741824)
    (h : ∀ a c H', OwnRow H' (.slice a (l.length + m.length) c) (l ++ m) → App H v H' (.slice a (l.length + m.length) c) → Φ (.slice a (l.length + m.length) c) H') : oA (app 1 v w H) Φ := by
  obtain ⟨c1, c2⟩ := hv.int.cl
  obtain ⟨c3, c4⟩ := hw.cl
  unfold app
  rw [c1, c3]
  simp only [c2, c4]
  by_cases hm : m.length = 0
  · rw [if_pos hm]
    have : m = [] := List.eq_nil_of_length_eq_zero hm
    subst this
    obtain ⟨a, c, e⟩ := (show ∃ a c, v = .slice a l.length c by obtain ⟨a, c, h1, _⟩ := hv.int.op; exact ⟨a, c, h1⟩)
    subst e
    have := h a c H (by simpa using hv) ⟨Nat.le_refl _, fun b _ _ => rfl, fun b hb => .inl hb⟩
    simpa [oA] using this
  · rw [if_neg hm, if_pos ⟨hl, ints_leaf, hv.ownOk⟩]
    refine h _ _ _ ?_ ⟨by simp [kill_len2], fun b hb hn => ?_, fun b hb => .inr ?_⟩
    · refine .inr ⟨H.length, 0, ints l ++ ints m, by rw [List.length_append], ?_, ?_, ?_⟩
      · rw [← kill_len2 (v := v), gt0]; rfl
      · simp [ints]
      · rw [List.drop_zero, List.take_of_length_le (by simp [ints]), ints_app]
    · rw [List.getElem?_append_left (by rw [kill_len2]; exact hb), kill_keep hn]
    · simp [blkOf] at hb; omega
theorem OwnRow.nil {H : AH} : OwnRow H (.slice none 0 0) [] := .inl ⟨rfl, rfl⟩
theorem OwnRow.at0 {H : AH} {b : Nat} {cs : List Value} (h : H[b]? = some ⟨cs, .own⟩) : OwnRow H (.slice (some ⟨b, 0, none⟩) 0 1) [] := .inr ⟨b, 0, cs, rfl, h, by simp, by simp [ints]⟩
theorem IntRow.ext {H H' : AH} {w : Value} {m : List Int} (h : IntRow H w m) (he : ∃ K, H' = H ++ K) : IntRow H' w m := by
  obtain ⟨K, rfl⟩ := he; exact h.mono
theorem App.own {H H' : AH} {v v' w : Value} {m : List Int} (h : App H v H' v') (hw : OwnRow H w m) (hd : ∀ b, blkOf w = some b → blkOf v ≠ some b) : OwnRow H' w m :=
  hw.same fun b hb => h.keep b (hw.lt b hb) (hd b hb)
theorem App.at {H H' : AH} {v v' : Value} {b : Nat} {k : Blk} (h : App H v H' v') (hb : H[b]? = some k) (hd : blkOf v ≠ some b) : H'[b]? = some k := by
  rw [h.keep b (List.getElem?_eq_some_iff.1 hb).1 hd, hb]
theorem set_at {H : AH} {b : Nat} {k k' : Blk} (h : H[b]? = some k) : (H.set b k')[b]? = some k' := List.getElem?_set_self (List.getElem?_eq_some_iff.1 h).1
theorem set_ext {H H' : AH} {b : Nat} {k : Blk} (h : ∃ K, H' = H ++ K) (hb : H.length ≤ b) : ∃ K, H'.set b k = H ++ K := by
  obtain ⟨K, rfl⟩ := h
  exact ⟨K.set (b - H.length) k, by rw [List.set_append_right _ _ hb]⟩
theorem app_ext {H H' L : AH} (h : ∃ K, H' = H ++ K) : ∃ K, H' ++ L = H ++ K := by
  obtain ⟨K, rfl⟩ := h
  exact ⟨K ++ L, by simp⟩
theorem ext_refl {H : AH} : ∃ K, H = H ++ K := ⟨[], by simp⟩
theorem ext_trans {H H1 H2 : AH} (h1 : ∃ K, H1 = H ++ K) (h2 : ∃ K, H2 = H1 ++ K) : ∃ K, H2 = H ++ K := by
  obtain ⟨K, rfl⟩ := h1; obtain ⟨L, rfl⟩ := h2; exact ⟨K ++ L, by simp⟩
theorem ext_len {H H' : AH} (h : ∃ K, H' = H ++ K) : H.length ≤ H'.length := by
  obtain ⟨K, rfl⟩ := h; simp
theorem OwnRow.set {H : AH} {v : Value} {l : List Int} {b : Nat} {k : Blk} (h : OwnRow H v l) (hb : blkOf v ≠ some b) : OwnRow (H.set b k) v l :=
  h.same fun g hg => List.getElem?_set_ne (fun e => hb (by rw [e]; exact hg))
/-- An array whose rows are its own. -/
structure AOwn (H0 H : AH) (v : Value) (sh dt : List Int) (p q : Value) : Prop where
  eq : v = .agg #[p, q]
  sh : OwnRow H p sh
  dt : OwnRow H q dt
  dj : Dj p q
  n1 : ∀ b, blkOf p = some b → H0.length ≤ b
  n2 : ∀ b, blkOf q = some b → H0.length ≤ b

/-- A row of cells of its own; its cells may be read. -/
structure FOwn (H : AH) (v : Value) (ks : List CK) (n : Nat) (xs : List Value) : Prop where
  len : xs.length = n * ks.length
  row : (v = .slice none 0 0 ∧ n = 0) ∨ ∃ b o cs, v = .slice (some ⟨b, o, none⟩) n ks.length ∧ H[b]? = some ⟨cs, .own⟩ ∧ o + n * ks.length ≤ cs.length ∧ ∀ (j : Nat) y, xs[j]? = some y → cs[o + j]? = some y
  ok : ∀ (i c : Nat) k y, i < n → ks[c]? = some k → xs[i * ks.length + c]? = some y → KOk H k y
  out : ∀ (j : Nat) y, xs[j]? = some y → Dj v y
theorem OT.fown {H : AH} {v : Value} {ks : List CK} {n : Nat} {xs : List Value} (h : OT H v ks n xs) : FOwn H v ks n xs := ⟨h.len, h.row, h.ok, h.out⟩
theorem FOwn.frow {H : AH} {v : Value} {ks : List CK} {n : Nat} {xs : List Value} (h : FOwn H v ks n xs) : FRow H v ks n xs := by
  refine ⟨h.len, ?_, h.ok⟩
  rcases h.row with h1 | ⟨b, o, cs, h1, h2, h3⟩
  · exact .inl h1
  · exact .inr ⟨b, o, cs, h1, rd_own h2, h3⟩
theorem KOk.lt {H : AH} {k : CK} {y : Value} (h : KOk H k y) : ∀ b, blkOf y = some b → b < H.length := by
  intro b hb
  have := h.rdable b hb
  rcases Nat.lt_or_ge b H.length with h1 | h1
  · exact h1
  · unfold rd at this; rw [List.getElem?_eq_none h1] at this; cases this
theorem FRow.lt {H : AH} {v : Value} {ks : List CK} {n : Nat} {xs : List Value} (h : FRow H v ks n xs) : ∀ b, (blkOf v = some b ∨ ∃ y ∈ xs, blkOf y = some b) → b < H.length := by
  intro b hb
  have := h.rdable b hb
  rcases Nat.lt_or_ge b H.length with h1 | h1
  · exact h1
  · unfold rd at this; rw [List.getElem?_eq_none h1] at this; cases this
theorem FOwn.same {H H' : AH} {v : Value} {ks : List CK} {n : Nat} {xs : List Value} (h : FOwn H v ks n xs) (hs : ∀ b, (blkOf v = some b ∨ ∃ y ∈ xs, blkOf y = some b) → H'[b]? = H[b]?) : FOwn H' v ks n xs := by
  refine ⟨h.len, ?_, (h.frow.same fun b hb => get_rd (hs b hb)).ok, h.out⟩
  rcases h.row with h1 | ⟨b, o, cs, h1, h2, h3⟩
  · exact .inl h1
  · exact .inr ⟨b, o, cs, h1, by rw [hs b (.inl (by rw [h1]; rfl))]; exact h2, h3⟩
theorem FOwn.mono {H L : AH} {v : Value} {ks : List CK} {n : Nat} {xs : List Value} (h : FOwn H v ks n xs) : FOwn (H ++ L) v ks n xs := h.same fun b hb => List.getElem?_append_left (h.frow.lt b hb)
theorem FOwn.nil {H : AH} {ks : List CK} : FOwn H (.slice none 0 0) ks 0 [] := ⟨by simp, .inl ⟨rfl, rfl⟩, fun i c k y hi => by omega, fun j y h => by simp at h⟩
theorem FOwn.at0 {H : AH} {ks : List CK} {b : Nat} {cs : List Value} (h : H[b]? = some ⟨cs, .own⟩) : FOwn H (.slice (some ⟨b, 0, none⟩) 0 ks.length) ks 0 [] := ⟨by simp, .inr ⟨b, 0, cs, rfl, h, by simp, fun j y h => by simp at h⟩, fun i c k y hi => by omega, fun j y h => by simp at h⟩
theorem OT.of {H : AH} {v : Value} {ks : List CK} {n : Nat} {xs : List Value} (h : FOwn H v ks n xs) (h1 : ∀ (j : Nat) y, xs[j]? = some y → OwnC H y) (h2 : ∀ (i j : Nat) x y, i ≠ j → xs[i]? = some x → xs[j]? = some y → Dj x y) : OT H v ks n xs := ⟨h.len, h.row, h.ok, h1, h.out, h2⟩
theorem KOk.leaf {H : AH} {k : CK} {y : Value} (h : KOk H k y) : Go.Proofs.Ytdagncfnkenbfaa.AM.leaf y = true := by
  cases k with
  | i => obtain ⟨n, rfl⟩ := h; rfl
  | b => obtain ⟨n, rfl⟩ := h; rfl
  | r => obtain ⟨a, c, e⟩ := h.1.slice; rw [e]; rfl
  | w => obtain ⟨a, c, e⟩ := h.1.slice; rw [e]; rfl
theorem All2.mem {H : AH} {ks : List CK} {x : List Value} (h : All2 H ks x) {y : Value} (hy : y ∈ x) : ∃ k, KOk H k y := by
  obtain ⟨c, hc, e⟩ := List.mem_iff_getElem.1 hy
  have hl := h.len
  exact ⟨ks[c], h.get c ks[c] y (List.getElem?_eq_getElem (by omega)) (by rw [List.getElem?_eq_getElem hc, e])⟩
theorem FOwn.cl {H : AH} {v : Value} {ks : List CK} {n : Nat} {xs : List Value} (h : FOwn H v ks n xs) : cl H ks.length v = some xs ∧ lenS v = n ∧ ownOk v ks.length H = true := by
  have hl := h.len
  rcases h.row with ⟨rfl, rfl⟩ | ⟨b, o, cs, rfl, h1, h2, h3⟩
  · have : xs = [] := List.eq_nil_of_length_eq_zero (by omega)
    subst this
    exact ⟨rfl, rfl, rfl⟩
  · refine ⟨?_, rfl, by simp [ownOk, h1]⟩
    simp only [Go.Proofs.Ytdagncfnkenbfaa.AM.cl, rd_own h1, Option.bind_some, if_pos h2]
    congr 1
    refine List.ext_getElem? fun j => ?_
    rcases Nat.lt_or_ge j xs.length with h4 | h4
    · rw [List.getElem?_take_of_lt (by omega), List.getElem?_drop, h3 j _ (List.getElem?_eq_getElem h4), List.getElem?_eq_getElem h4]
    · rw [List.getElem?_eq_none (by simp; omega), List.getElem?_eq_none h4]
theorem oA_push {H : AH} {v : Value} {ks : List CK} {n : Nat} {xs x : List Value} {Φ : Value → AH → Prop} (h : FOwn H v ks n xs) (hx : All2 H ks x) (hd : ∀ y ∈ x, Dj v y) (hl : n + 1 ≤ 1073741824)
    (hk : ∀ b H', FOwn H' (.slice (some ⟨b, 0, none⟩) (n + 1) ks.length) ks (n + 1) (xs ++ x) → App H v H' (.slice (some ⟨b, 0, none⟩) (n + 1) ks.length) → (∀ y ∈ xs ++ x, cv H' y = cv H y) → H.length < b → Φ (.slice (some ⟨b, 0, none⟩) (n + 1) ks.length) H') :
    oA (app ks.length v (.slice (some ⟨H.length, 0, none⟩) 1 ks.length) (H ++ [⟨x, .own⟩])) Φ := by
  obtain ⟨c1, c2, c3⟩ := (h.mono (L := [⟨x, .own⟩])).cl
  have c4 : Go.Proofs.Ytdagncfnkenbfaa.AM.cl (H ++ [⟨x, .own⟩]) ks.length (.slice (some ⟨H.length, 0, none⟩) 1 ks.length) = some x := by
    simp only [Go.Proofs.Ytdagncfnkenbfaa.AM.cl, rd0, List.getElem?_cons_zero, rdB_own, Option.bind_some, Nat.zero_add, Nat.one_mul]
    rw [if_pos (Nat.le_of_eq hx.len.symm), List.drop_zero, List.take_of_length_le (Nat.le_of_eq hx.len)]
  have c5 : x.all leaf = true := List.all_eq_true.2 fun y hy => by
    obtain ⟨k, hk⟩ := hx.mem hy
    exact hk.leaf
  have c6 : lenS (.slice (some ⟨H.length, 0, none⟩) 1 ks.length) = 1 := rfl
  unfold app
  rw [c1, c4]
  simp only
  rw [c6, c2, if_neg (by decide), if_pos ⟨hl, c5, c3⟩]
  have hlt := h.frow.lt
  have keep : ∀ b, b < H.length → blkOf v ≠ some b → (kill v (H ++ [⟨x, .own⟩]) ++ [⟨xs ++ x, .own⟩] : AH)[b]? = H[b]? := by
    intro b hb hn
    rw [List.getElem?_append_left (by rw [kill_len2, List.length_append]; omega), kill_keep hn, List.getElem?_append_left hb]
  have hcell : ∀ y ∈ xs ++ x, ∀ b, blkOf y = some b → (kill v (H ++ [⟨x, .own⟩]) ++ [⟨xs ++ x, .own⟩] : AH)[b]? = H[b]? := by
    intro y hy b hb
    rcases List.mem_append.1 hy with h1 | h1
    · obtain ⟨j, hj⟩ := List.mem_iff_getElem?.1 h1
      exact keep b (hlt b (.inr ⟨y, h1, hb⟩)) fun e => h.out j y hj b e hb
    · obtain ⟨k, hk⟩ := hx.mem h1
      exact keep b (hk.lt b hb) fun e => hd y h1 b e hb
  refine hk _ _ ⟨?_, ?_, ?_, ?_⟩ ⟨by rw [List.length_append, kill_len2, List.length_append]; omega, keep, fun b hb => .inr ?_⟩ (fun y hy => cv_same fun b hb => get_rd (hcell y hy b hb)) (by rw [List.length_append]; exact Nat.lt_succ_self _)
  · rw [List.length_append, h.len, hx.len, Nat.add_mul, Nat.one_mul]
  · refine .inr ⟨_, 0, xs ++ x, rfl, by rw [← kill_len2 (v := v), gt0]; rfl, by rw [List.length_append, h.len, hx.len, Nat.add_mul]; omega, fun j y hy => by rw [Nat.zero_add]; exact hy⟩
  · intro i c k y hi hk' hy
    have hmem : y ∈ xs ++ x := List.mem_of_getElem? hy
    refine KOk.same (H := H) ?_ fun b hb => get_rd (hcell y hmem b hb)
    have hc := (List.getElem?_eq_some_iff.1 hk').1
    rcases Nat.lt_or_ge i n with h1 | h1
    · have := row_lt (s := ks.length) h1
      rw [List.getElem?_append_left (by rw [h.len]; omega)] at hy
      exact h.ok i c k y h1 hk' hy
    · have : i = n := by omega
      subst this
      rw [List.getElem?_append_right (by rw [h.len]; omega), h.len, Nat.add_sub_cancel_left] at hy
      exact hx.get c k y hk' hy
  · intro j y hy b hb hb2
    simp [blkOf] at hb
    have hmem : y ∈ xs ++ x := List.mem_of_getElem? hy
    have : b < H.length := by
      rcases List.mem_append.1 hmem with h1 | h1
      · exact hlt b (.inr ⟨y, h1, hb2⟩)
      · obtain ⟨k, hk⟩ := hx.mem h1
        exact hk.lt b hb2
    omega
  · simp [blkOf] at hb; omega
/-- All of a row is its own, and no older than a heap. -/
structure New (H0 H : AH) (v : Value) (ks : List CK) (n : Nat) (ys : List Value) : Prop where
  ot : OT H v ks n ys
  fr : ∀ b, (blkOf v = some b ∨ ∃ y ∈ ys, blkOf y = some b) → H0.length ≤ b
theorem New.mono {H0 H L : AH} {v : Value} {ks : List CK} {n : Nat} {ys : List Value} (h : New H0 H v ks n ys) : New H0 (H ++ L) v ks n ys := ⟨h.ot.mono, h.fr⟩
theorem New.nil {H0 H : AH} {ks : List CK} : New H0 H (.slice none 0 0) ks 0 [] := ⟨OT.of FOwn.nil (fun j y h => by simp at h) fun i j x y _ h => by simp at h, fun b hb => by simp [blkOf] at hb⟩
theorem New.at0 {H0 H : AH} {ks : List CK} {b : Nat} {cs : List Value} (h : H[b]? = some ⟨cs, .own⟩) (hb : H0.length ≤ b) : New H0 H (.slice (some ⟨b, 0, none⟩) 0 ks.length) ks 0 [] :=
  ⟨OT.of (FOwn.at0 h) (fun j y h => by simp at h) fun i j x y _ h => by simp at h, fun g hg => by simp [blkOf] at hg; omega⟩
/-- A new element is put behind a row that is its own. -/
theorem oA_new {H0 H1 H : AH} {v : Value} {ks : List CK} {n : Nat} {xs x : List Value} {Φ : Value → AH → Prop} (h : New H0 H1 v ks n xs) (he : ∃ K, H = H1 ++ K) (hx : All2 H ks x) (ho : ∀ y ∈ x, OwnC H y) (hf : ∀ y ∈ x, ∀ b, blkOf y = some b → H1.length ≤ b)
    (hdj : ∀ (i j : Nat) y z, i ≠ j → x[i]? = some y → x[j]? = some z → Dj y z) (h0 : H0.length ≤ H1.length) (hl : n + 1 ≤ 1073741824)
    (hk : ∀ b H', New H0 H' (.slice (some ⟨b, 0, none⟩) (n + 1) ks.length) ks (n + 1) (xs ++ x) → App H v H' (.slice (some ⟨b, 0, none⟩) (n + 1) ks.length) → cvs H' (xs ++ x) = cvs H1 xs ++ x.map (cv H) → Φ (.slice (some ⟨b, 0, none⟩) (n + 1) ks.length) H') :
    oA (app ks.length v (.slice (some ⟨H.length, 0, none⟩) 1 ks.length) (H ++ [⟨x, .own⟩])) Φ := by
  obtain ⟨K, rfl⟩ := he
  have hd : ∀ y ∈ x, Dj v y := fun y hy b hb hb2 => by
    have := h.ot.lt b (.inl hb); have := hf y hy b hb2; omega
  have hxx : ∀ y ∈ x, ∀ z ∈ xs, Dj y z := fun y hy z hz b hb hb2 => by
    have := h.ot.lt b (.inr ⟨z, hz, hb2⟩); have := hf y hy b hb; omega
  refine oA_push h.ot.mono.fown hx hd hl fun b H' f a c hb => hk b H' ⟨OT.of f ?_ ?_, ?_⟩ a ?_
  · intro j y hy
    have hmem := List.mem_of_getElem? hy
    have hold : OwnC (H1 ++ K) y := by
      rcases List.mem_append.1 hmem with h1 | h1
      · obtain ⟨i, hi⟩ := List.mem_iff_getElem?.1 h1
        exact h.ot.mono.own i y hi
      · exact ho y h1
    refine hold.same fun g hg => a.keep g (hold.lt g hg) fun e => ?_
    rcases List.mem_append.1 hmem with h1 | h1
    · obtain ⟨i, hi⟩ := List.mem_iff_getElem?.1 h1
      exact h.ot.out i y hi g e hg
    · exact hd y h1 g e hg
  · intro i j y z hij hy hz
    rw [List.getElem?_append] at hy hz
    split at hy <;> split at hz
    · exact h.ot.dif i j y z hij hy hz
    · exact (hxx z (List.mem_of_getElem? hz) y (List.mem_of_getElem? hy)).symm
    · exact hxx y (List.mem_of_getElem? hy) z (List.mem_of_getElem? hz)
    · exact hdj _ _ y z (by omega) hy hz
  · rintro g (hg | ⟨y, hy, hg⟩)
    · simp [blkOf] at hg; rw [List.length_append] at hb; omega
    · rcases List.mem_append.1 hy with h1 | h1
      · exact h.fr g (.inr ⟨y, h1, hg⟩)
      · have := hf y h1 g hg; omega
  · have e1 : cvs (H1 ++ K) xs = cvs H1 xs := h.ot.frow.vals
    rw [← e1]
    unfold cvs
    rw [List.map_append, List.map_congr_left fun y hy => c y (List.mem_append.2 (.inl hy)), List.map_congr_left fun y hy => c y (List.mem_append.2 (.inr hy))]
theorem FRow.opn {H : AH} {v : Value} {ks : List CK} {n : Nat} {xs : List Value} (s : Nat) (hs : ks.length = s) (h : FRow H v ks n xs) : ∃ a c, v = .slice a n c ∧ (0 < n → ∃ b o cs, a = some ⟨b, o, none⟩ ∧ c = s ∧ rd H b = some cs ∧ o + n * s ≤ cs.length ∧
    ∀ i, i < n → aggAt s (o + i * s) cs = some (.agg (elm s xs i).toArray) ∧ ∀ (c : Nat) y, (elm s xs i)[c]? = some y → cs[o + i * s + c]? = some y) := by
  subst hs; exact h.op
theorem FRow.elemn {H : AH} {v : Value} {ks : List CK} {n : Nat} {xs : List Value} (s : Nat) (hs : ks.length = s) (h : FRow H v ks n xs) {i : Nat} (hi : i < n) : All2 H ks (elm s xs i) := by
  subst hs; exact h.elem hi
theorem New.at0n {H0 H : AH} {ks : List CK} {s : Nat} (hs : ks.length = s) {b : Nat} {cs : List Value} (h : H[b]? = some ⟨cs, .own⟩) (hb : H0.length ≤ b) : New H0 H (.slice (some ⟨b, 0, none⟩) 0 s) ks 0 [] := by
  subst hs; exact New.at0 h hb
theorem oA_newn {H0 H1 H : AH} {v : Value} {ks : List CK} {n : Nat} {xs x : List Value} {Φ : Value → AH → Prop} (s : Nat) (hs : ks.length = s) (h : New H0 H1 v ks n xs) (he : ∃ K, H = H1 ++ K) (hx : All2 H ks x) (ho : ∀ y ∈ x, OwnC H y) (hf : ∀ y ∈ x, ∀ b, blkOf y = some b → H1.length ≤ b)
    (hdj : ∀ (i j : Nat) y z, i ≠ j → x[i]? = some y → x[j]? = some z → Dj y z) (h0 : H0.length ≤ H1.length) (hl : n + 1 ≤ 1073741824)
    (hk : ∀ b H', New H0 H' (.slice (some ⟨b, 0, none⟩) (n + 1) s) ks (n + 1) (xs ++ x) → App H v H' (.slice (some ⟨b, 0, none⟩) (n + 1) s) → cvs H' (xs ++ x) = cvs H1 xs ++ x.map (cv H) → Φ (.slice (some ⟨b, 0, none⟩) (n + 1) s) H') :
    oA (app s v (.slice (some ⟨H.length, 0, none⟩) 1 s) (H ++ [⟨x, .own⟩])) Φ := by
  subst hs
  exact oA_new h he hx ho hf hdj h0 hl hk
theorem New.blk {H0 H : AH} {v : Value} {ks : List CK} {n : Nat} {ys : List Value} (h : New H0 H v ks n ys) : ∀ b, blkOf v = some b → H0.length ≤ b := fun b hb => h.fr b (.inl hb)
theorem pw_get {x : List Value} (h : x.Pairwise Dj) : ∀ (i j : Nat) y z, i ≠ j → x[i]? = some y → x[j]? = some z → Dj y z := by
  intro i j y z hij hy hz
  obtain ⟨h1, e1⟩ := List.getElem?_eq_some_iff.1 hy
  obtain ⟨h2, e2⟩ := List.getElem?_eq_some_iff.1 hz
  rw [List.pairwise_iff_getElem] at h
  rcases Nat.lt_or_gt_of_ne hij with h3 | h3
  · have := h i j h1 h2 h3
    rwa [e1, e2] at this
  · have := h j i h2 h1 h3
    rw [e1, e2] at this
    exact this.symm
theorem MC.at {H H' : AH} {v : Value} {ks : List CK} {n p : Nat} {xs ys : List Value} {k q : Int} (s : Nat) (hs : ks.length = s) (h : MC H v ks n xs k p q ys H') {b o : Nat} {c : Nat} (hv : v = .slice (some ⟨b, o, none⟩) n c) (hn : 0 < n) :
    c = s ∧ ∃ cs, H'[b]? = some ⟨cs, .own⟩ ∧ o + n * s ≤ cs.length ∧ ∀ (j : Nat) y, ys[j]? = some y → cs[o + j]? = some y := by
  subst hs
  rcases h.ot.row with ⟨_, h1⟩ | ⟨b', o', cs, h1, h2⟩
  · omega
  · rw [hv] at h1
    simp only [Value.slice.injEq, Option.some.injEq, Addr.mk.injEq] at h1
    obtain ⟨⟨rfl, rfl, _⟩, _, rfl⟩ := h1
    exact ⟨rfl, cs, h2⟩
theorem MC.kind {H H' : AH} {v : Value} {ks : List CK} {n p : Nat} {xs ys : List Value} {k q : Int} (s : Nat) (hs : ks.length = s) (h : MC H v ks n xs k p q ys H') {i c : Nat} {kd : CK} (hi : i < n) (hk : ks[c]? = some kd) :
    ∃ y, ys[i * s + c]? = some y ∧ KOk H' kd y ∧ OwnC H' y := by
  subst hs
  have hl := h.ot.len
  have hr := row_lt (s := ks.length) hi
  have hc := (List.getElem?_eq_some_iff.1 hk).1
  have e : ys[i * ks.length + c]? = some ys[i * ks.length + c] := List.getElem?_eq_getElem (by omega)
  exact ⟨_, e, h.ot.ok i c kd _ hi hk e, h.ot.own _ _ e⟩
theorem OwnC.row {H : AH} {y : Value} (h : OwnC H y) (hk : OkI H y) : OwnRow H y (rowI H y) := by
  rcases h with ⟨n, rfl⟩ | ⟨x, rfl⟩ | h
  · obtain ⟨a, c, e⟩ := hk.slice; cases e
  · obtain ⟨a, c, e⟩ := hk.slice; cases e
  · exact h
theorem OwnRow.blk {H : AH} {v : Value} {l : List Int} (h : OwnRow H v l) (hl : 0 < l.length) : ∃ b o cs, v = .slice (some ⟨b, o, none⟩) l.length 1 ∧ H[b]? = some ⟨cs, .own⟩ ∧ o + l.length ≤ cs.length ∧ ∀ (i : Nat) x, l[i]? = some x → cs[o + i]? = some (.int .i64 x) := by
  rcases h with ⟨rfl, rfl⟩ | ⟨b, o, cs, rfl, h1, h2, h3⟩
  · simp at hl
  · refine ⟨b, o, cs, rfl, h1, h2, fun i x hx => ?_⟩
    obtain ⟨hi, e⟩ := List.getElem?_eq_some_iff.1 hx
    have := ints_get hi
    rw [← h3, List.getElem?_take_of_lt hi, List.getElem?_drop, e] at this
    exact this
theorem OwnRow.ext {H H' : AH} {v : Value} {l : List Int} (h : OwnRow H v l) (he : ∃ K, H' = H ++ K) : OwnRow H' v l := by obtain ⟨K, rfl⟩ := he; exact h.mono
theorem rd_ext {H H' : AH} {b : Nat} {cs : List Value} (h : rd H b = some cs) (he : ∃ K, H' = H ++ K) : rd H' b = some cs := by obtain ⟨K, rfl⟩ := he; rw [rdl (by simp [h]), h]
theorem All2.ext {H H' : AH} {ks : List CK} {x : List Value} (h : All2 H ks x) (he : ∃ K, H' = H ++ K) : All2 H' ks x ∧ x.map (cv H') = x.map (cv H) := by obtain ⟨K, rfl⟩ := he; exact ⟨h.mono, h.mapcv⟩
theorem intRow1 {H : AH} {d : Int} : IntRow (H ++ [⟨[.int .i64 d], .own⟩]) (.slice (some ⟨H.length, 0, none⟩) 1 1) [d] :=
  .inr ⟨H.length, 0, [.int .i64 d], rfl, by rw [rd0]; rfl, by simp, by simp [ints]⟩

theorem OwnRow.kok {H : AH} {p : Value} {l : List Int} (h : OwnRow H p l) (hl : l.length < 1073741825) : KOk H .r p ∧ OwnC H p ∧ cv H p = .r l := by
  refine ⟨⟨h.int.ok, by rw [h.rowI]; exact hl⟩, .inr (.inr (by rw [h.rowI]; exact h)), ?_⟩
  rw [cv_row h.int.ok, h.rowI]

abbrev kToken : List CK := [.i, .i]
abbrev kInstr : List CK := [.i, .i, .i, .i, .i, .r]
abbrev kExpr : List CK := [.i, .i, .i, .i, .i, .i, .r]

theorem SOwn.new {H : AH} {s : Nat} {xs : List (List Value)} (h : ∀ x ∈ xs, x.length = s) : SOwn (H ++ [⟨xs.flatten, .own⟩]) (.slice (some ⟨H.length, 0, none⟩) xs.length s) s xs := by
  obtain ⟨h1, h2⟩ := flat_get xs h
  refine .inr ⟨H.length, 0, xs.flatten, rfl, by rw [gt0]; rfl, by rw [h1]; omega, ?_⟩
  intro i x hx
  have hl := h x (List.mem_iff_getElem?.2 ⟨i, hx⟩)
  refine ⟨hl, fun j y hy => ?_⟩
  have hj : j < s := by rw [← hl]; exact (List.getElem?_eq_some_iff.1 hy).1
  rw [← h2 i x hx, List.getElem?_take_of_lt hj, List.getElem?_drop] at hy
  rw [Nat.zero_add]
  exact hy

def funOne (s o w : Int) : Bool := w == 0 && ((o == 0 && (sg1 s || (s == 105 || s == 35 || s == 44 || s == 114 || s == 122 || s == 103))) || ((o == 47 || o == 92) && sg2 s))
def funTwo (s o w : Int) : Bool := (o == 46 && (sg2 s && sg2 w)) || (w == 0 && ((o == 111 && sg2 s) || (o == 0 && (sg2 s || (s == 35 || s == 44 || s == 116 || s == 100 || s == 114 || s == 64 || s == 63 || s == 36 || s == 101)))))

set_option maxHeartbeats 4000000 in
theorem specFunOne_ok (s o w : Int) (H : AH) : CallsA Try.prog 82 #[.agg #[.int .i64 s, .int .i64 o, .int .i64 w]] H fun r H' => r = .bool (funOne s o w) ∧ ∃ K, H' = H ++ K := by
  refine w82 ?_
  unfold k82
  simp -implicitDefEqProofs only [kz, kk0, kk1, kk2, kk3, ↓two_true, ↓two_false, oS_some, oM_some, mkv, aggAt, Nat.reduceLeDiff, Nat.reduceSub, Nat.reduceMul, implies_true, Nat.reduceEqDiff, reduceIte, Nat.reduceAdd, Nat.reduceBEq, reduceCtorEq, fa63_0, fa63_1, fa63_2, ld3, l1Sign1_eq, l1Sign2_eq]
  simp +contextual [two, funOne]
theorem specFunOne_eq {s o w : Int} {H : AH} {Φ : Value → AH → Prop} : CallsA Try.prog 82 #[.agg #[.int .i64 s, .int .i64 o, .int .i64 w]] H Φ = Φ (.bool (funOne s o w)) (H ++ jk Try.prog 82 #[.agg #[.int .i64 s, .int .i64 o, .int .i64 w]] H) := (specFunOne_ok s o w H).eqV

set_option maxHeartbeats 4000000 in
theorem implFunOne_ok (s o w : Int) (H : AH) : CallsA Try.prog 86 #[.agg #[.int .i64 s, .int .i64 o, .int .i64 w]] H fun r H' => r = .bool (funOne s o w) ∧ ∃ K, H' = H ++ K := by
  refine w86 ?_
  unfold k86
  simp -implicitDefEqProofs only [kz, kk0, kk1, kk2, kk3, ↓two_true, ↓two_false, oS_some, oM_some, mkv, aggAt, Nat.reduceLeDiff, Nat.reduceSub, Nat.reduceMul, implies_true, Nat.reduceEqDiff, reduceIte, Nat.reduceAdd, Nat.reduceBEq, reduceCtorEq, fa63_0, fa63_1, fa63_2, ld3, oneSign_eq, twoSign_eq, hasSign_eq, bs_size, Nat.reduceLT, hasS_3]
  simp +contextual [two, funOne]
theorem implFunOne_eq {s o w : Int} {H : AH} {Φ : Value → AH → Prop} : CallsA Try.prog 86 #[.agg #[.int .i64 s, .int .i64 o, .int .i64 w]] H Φ = Φ (.bool (funOne s o w)) (H ++ jk Try.prog 86 #[.agg #[.int .i64 s, .int .i64 o, .int .i64 w]] H) := (implFunOne_ok s o w H).eqV

set_option maxHeartbeats 4000000 in
theorem specFunTwo_ok (s o w : Int) (H : AH) : CallsA Try.prog 83 #[.agg #[.int .i64 s, .int .i64 o, .int .i64 w]] H fun r H' => r = .bool (funTwo s o w) ∧ ∃ K, H' = H ++ K := by
  refine w83 ?_
  unfold k83
  simp -implicitDefEqProofs only [kz, kk0, kk1, kk2, kk3, ↓two_true, ↓two_false, oS_some, oM_some, mkv, aggAt, Nat.reduceLeDiff, Nat.reduceSub, Nat.reduceMul, implies_true, Nat.reduceEqDiff, reduceIte, Nat.reduceAdd, Nat.reduceBEq, reduceCtorEq, fa63_0, fa63_1, fa63_2, ld3, l1Sign2_eq]
  simp +contextual [two, funTwo]
theorem specFunTwo_eq {s o w : Int} {H : AH} {Φ : Value → AH → Prop} : CallsA Try.prog 83 #[.agg #[.int .i64 s, .int .i64 o, .int .i64 w]] H Φ = Φ (.bool (funTwo s o w)) (H ++ jk Try.prog 83 #[.agg #[.int .i64 s, .int .i64 o, .int .i64 w]] H) := (specFunTwo_ok s o w H).eqV

set_option maxHeartbeats 4000000 in
theorem implFunTwo_ok (s o w : Int) (H : AH) : CallsA Try.prog 87 #[.agg #[.int .i64 s, .int .i64 o, .int .i64 w]] H fun r H' => r = .bool (funTwo s o w) ∧ ∃ K, H' = H ++ K := by
  refine w87 ?_
  unfold k87
  simp -implicitDefEqProofs only [kz, kk0, kk1, kk2, kk3, ↓two_true, ↓two_false, oS_some, oM_some, mkv, aggAt, Nat.reduceLeDiff, Nat.reduceSub, Nat.reduceMul, implies_true, Nat.reduceEqDiff, reduceIte, Nat.reduceAdd, Nat.reduceBEq, reduceCtorEq, fa63_0, fa63_1, fa63_2, ld3, twoSign_eq, hasSign_eq, bs_size, Nat.reduceLT, hasS_4]
  simp +contextual [two, funTwo]
theorem implFunTwo_eq {s o w : Int} {H : AH} {Φ : Value → AH → Prop} : CallsA Try.prog 87 #[.agg #[.int .i64 s, .int .i64 o, .int .i64 w]] H Φ = Φ (.bool (funTwo s o w)) (H ++ jk Try.prog 87 #[.agg #[.int .i64 s, .int .i64 o, .int .i64 w]] H) := (implFunTwo_ok s o w H).eqV

/-- The signs of tokens. -/
def tkSigns : ByteArray := ⟨#[43, 45, 42, 37, 124, 38, 94, 61, 60, 62, 126, 105, 35, 44, 116, 100, 114, 122, 64, 63, 103, 36, 101, 47, 92, 46, 111]⟩
def tokOk (k v : Int) : Bool := (k == 1 && numOk v) || (k == 2 && inB v 0 25) || (k == 3 && hasS tkSigns v) || ((k == 4 || k == 5 || k == 6) && v == 0)

set_option maxHeartbeats 4000000 in
theorem l8Sign_ok (s : Int) (H : AH) : CallsA Try.prog 40 #[.int .i64 s] H fun r H' => r = .bool (hasS tkSigns s) ∧ H' = H := by
  have hl : tkSigns.size = 27 := rfl
  refine w40 ?_
  unfold k40
  rw [← show tkSigns = ⟨#[43, 45, 42, 37, 124, 38, 94, 61, 60, 62, 126, 105, 35, 44, 116, 100, 114, 122, 64, 63, 103, 36, 101, 47, 92, 46, 111]⟩ from rfl]
  simp -implicitDefEqProofs only [kz, kk0, kk1, kk2, kk3, ↓two_true, ↓two_false, oS_some, oM_some, mkv, aggAt, Nat.reduceLeDiff, Nat.reduceSub, Nat.reduceMul, implies_true, Nat.reduceEqDiff, reduceIte, Nat.reduceAdd, Nat.reduceBEq, reduceCtorEq, cv5_3, (idx_str us9), ln9]
  refine rW_loop (σ := Nat) (fun i tm H' => tm 0 = .int .i64 s ∧ tm 3 = .string tkSigns ∧ tm 4 = .int .i64 i ∧ H' = H ∧ i ≤ tkSigns.size ∧ ∀ j, j < i → byt tkSigns j ≠ s) (fun i => tkSigns.size - i) 0 ?_ ?_
  · simp -implicitDefEqProofs [kk0, kk1, kk2, kk3, rW_block, ↓two_true, ↓two_false, rW_cond, rO_guard, oS_some, oM_some, mkv, aggAt, Nat.reduceLeDiff, Nat.reduceSub, Nat.reduceMul, cond_true, cond_false, Option.bind_some, List.length_append, List.length_cons, List.length_nil, List.append_assoc, List.cons_append, List.nil_append, List.set_cons_zero, List.set_cons_succ, List.size_toArray, List.all_cons, List.all_nil, List.drop_zero, List.drop_succ_cons, List.take_succ_cons, List.take_zero, List.mem_cons, Prod.mk.injEq, List.not_mem_nil, implies_true, List.getElem?_toArray, List.getElem?_cons_zero, List.getElem?_cons_succ, List.getElem?_nil, Option.getD_some, Option.getD_none, Nat.reduceEqDiff, reduceIte, Nat.reduceAdd, List.map_toArray, List.map_cons, List.map_nil, Bool.false_eq_true, Nat.reduceBEq, Option.map_some, Option.map_none, reduceCtorEq, cv5_3, (idx_str us9), ln9]
  · rintro i tm H' ⟨h0, h3, h4, rfl, hi, hn⟩
    simp -implicitDefEqProofs only [kz, kk0, kk1, kk2, kk3, ↓two_true, ↓two_false, oS_some, oM_some, mkv, aggAt, Nat.reduceLeDiff, Nat.reduceSub, Nat.reduceMul, implies_true, Nat.reduceEqDiff, reduceIte, Nat.reduceAdd, Nat.reduceBEq, reduceCtorEq, cv5_3, (idx_str us9), ln9, h0, h3, h4]
    refine two_intro (fun hc => ?_) (fun hc => ?_)
    · have hc' : i < tkSigns.size := by simpa using hc
      have hb := byt_range tkSigns i
      rw [IntWalk.i64_in (↑i + 1) (by omega)]
      simp only [Int.toNat_natCast]
      rw [IntWalk.i64_in (byt tkSigns i) (by omega)]
      refine ⟨⟨by omega, by omega⟩, two_intro (fun h => ?_) (fun h => ?_)⟩
      · rw [hasS_true.2 ⟨i, hc', by simpa using h⟩]
      · refine ⟨i + 1, by omega, by simp, hc', fun j hj => ?_⟩
        rcases Nat.lt_or_ge j i with h1 | h1
        · exact hn j h1
        · have : j = i := by omega
          subst this
          simpa using h
    · have hc' : ¬ i < tkSigns.size := by simpa using hc
      have : hasS tkSigns s = false := by
        rw [← Bool.not_eq_true, hasS_true]
        rintro ⟨j, h1, h2⟩
        exact hn j (by omega) h2
      rw [this]
theorem l8Sign_eq {s : Int} {H : AH} {Φ : Value → AH → Prop} : CallsA Try.prog 40 #[.int .i64 s] H Φ = Φ (.bool (hasS tkSigns s)) H := (l8Sign_ok s H).eq0

set_option maxHeartbeats 4000000 in
theorem specTokenOk_ok (k v : Int) (H : AH) : CallsA Try.prog 109 #[.agg #[.int .i64 k, .int .i64 v]] H fun r H' => r = .bool (tokOk k v) ∧ ∃ K, H' = H ++ K := by
  refine w109 ?_
  unfold k109
  simp -implicitDefEqProofs only [kz, kk0, kk1, kk2, kk3, ↓two_true, ↓two_false, oS_some, oM_some, mkv, aggAt, Nat.reduceLeDiff, Nat.reduceSub, Nat.reduceMul, implies_true, Nat.reduceEqDiff, reduceIte, Nat.reduceAdd, Nat.reduceBEq, reduceCtorEq, fa54_0, fa54_1, ld3, specNumOk_eq, l1In_eq, l8Sign_eq]
  simp +contextual [two, tokOk]
theorem all_take_false {l : List Int} {i : Nat} {f : Int → Bool} (h : i < l.length) (hf : f l[i] = false) : l.all f = false := by
  rw [Bool.eq_false_iff]
  intro ha
  have := (List.all_eq_true.1 ha) l[i] (List.getElem_mem h)
  rw [hf] at this; cases this

theorem any_not {l : List Int} : (l.any fun x => !numOk x) = !l.all numOk := List.not_all_eq_any_not.symm
def idxF {α : Type} (p : α → Bool) (l : List α) : Int := match l.findIdx? p with | some i => i | none => -1
theorem idxF_some {α : Type} {p : α → Bool} {l : List α} {i : Nat} (hi : i < l.length) (h : p l[i] = true) (hn : ∀ x ∈ l.take i, p x = false) : idxF p l = i := by
  have : l.findIdx? p = some i := by
    rw [List.findIdx?_eq_some_iff_getElem]
    refine ⟨hi, h, fun j hj => ?_⟩
    have hji : j < l.length := by omega
    have := hn l[j] (List.mem_iff_getElem?.2 ⟨j, by rw [List.getElem?_take_of_lt hj, List.getElem?_eq_getElem hji]⟩)
    simp [this]
  simp [idxF, this]
theorem idxF_none {α : Type} {p : α → Bool} {l : List α} (hn : ∀ x ∈ l, p x = false) : idxF p l = -1 := by
  have : l.findIdx? p = none := by
    rw [List.findIdx?_eq_none_iff]; exact hn
  simp [idxF, this]
theorem idxF_any {α : Type} {p : α → Bool} {l : List α} : decide (idxF p l ≥ 0) = l.any p := by
  cases h : l.findIdx? p with
  | none =>
    have h2 := List.findIdx?_eq_none_iff.1 h
    have : l.any p = false := by
      rw [Bool.eq_false_iff]
      intro ha
      obtain ⟨x, hx, hp⟩ := List.any_eq_true.1 ha
      rw [h2 x hx] at hp; cases hp
    simp [idxF, h, this]
  | some i =>
    obtain ⟨hi, hp, _⟩ := List.findIdx?_eq_some_iff_getElem.1 h
    have : l.any p = true := List.any_eq_true.2 ⟨l[i], List.getElem_mem hi, hp⟩
    simp [idxF, h, this]

set_option maxHeartbeats 4000000 in
theorem indexFuncI_ok {H : AH} {v : Value} {l : List Int} {g : FuncId} {p : Int → Bool} (hv : IntRow H v l) (hl : l.length < 4611686018427387904) (hp : ∀ x (H : AH) (Φ : Value → AH → Prop), CallsA Try.prog g #[.int .i64 x] H Φ = Φ (.bool (p x)) H) :
    CallsA Try.prog 108 #[v, .func (.func g) #[] #[]] H fun r H' => r = .int .i64 (idxF p l) ∧ H' = H := by
  obtain ⟨a, c, rfl, gv⟩ := hv.op
  refine w108 ?_
  unfold k108
  simp -implicitDefEqProofs only [kz, kk0, kk1, kk2, kk3, ↓two_true, ↓two_false, oS_some, oM_some, mkv, aggAt, Nat.reduceLeDiff, Nat.reduceSub, Nat.reduceMul, implies_true, Nat.reduceEqDiff, reduceIte, Nat.reduceAdd, Nat.reduceBEq, reduceCtorEq, ix64, ld3, ln64]
  refine rW_loop (σ := Nat) (fun i tm H' => tm 0 = .slice a l.length c ∧ tm 1 = .func (.func g) #[] #[] ∧ tm 7 = .int .i64 l.length ∧ tm 8 = .int .i64 i ∧ H' = H ∧ i ≤ l.length ∧ ∀ x ∈ l.take i, p x = false) (fun i => l.length - i) 0 ?_ ?_
  · simp -implicitDefEqProofs [kk0, kk1, kk2, kk3, rW_block, ↓two_true, ↓two_false, rW_cond, rO_guard, oS_some, oM_some, mkv, aggAt, Nat.reduceLeDiff, Nat.reduceSub, Nat.reduceMul, cond_true, cond_false, Option.bind_some, List.length_append, List.length_cons, List.length_nil, List.append_assoc, List.cons_append, List.nil_append, List.set_cons_zero, List.set_cons_succ, List.size_toArray, List.all_cons, List.all_nil, List.drop_zero, List.drop_succ_cons, List.take_succ_cons, List.take_zero, List.mem_cons, Prod.mk.injEq, List.not_mem_nil, implies_true, List.getElem?_toArray, List.getElem?_cons_zero, List.getElem?_cons_succ, List.getElem?_nil, Option.getD_some, Option.getD_none, Nat.reduceEqDiff, reduceIte, Nat.reduceAdd, List.map_toArray, List.map_cons, List.map_nil, Bool.false_eq_true, Nat.reduceBEq, Option.map_some, Option.map_none, reduceCtorEq, ix64, ld3, ln64]
  · rintro i tm H' ⟨h0, h1, h7, h8, rfl, hi, hn⟩
    simp -implicitDefEqProofs only [kz, kk0, kk1, kk2, kk3, ↓two_true, ↓two_false, oS_some, oM_some, mkv, aggAt, Nat.reduceLeDiff, Nat.reduceSub, Nat.reduceMul, implies_true, Nat.reduceEqDiff, reduceIte, Nat.reduceAdd, Nat.reduceBEq, reduceCtorEq, ix64, ld3, ln64, h0, h1, h7, h8]
    refine two_intro (fun hc => ?_) (fun hc => ?_)
    · have hc' : i < l.length := by simpa using hc
      obtain ⟨b, o, cs, rfl, rfl, hrd, _, hcell⟩ := gv (by omega)
      simp -implicitDefEqProofs only [kz, kk0, kk1, kk2, kk3, ↓two_true, ↓two_false, oS_some, oM_some, mkv, aggAt, Nat.reduceLeDiff, Nat.reduceSub, Nat.reduceMul, implies_true, Nat.reduceEqDiff, reduceIte, Nat.reduceAdd, Nat.reduceBEq, reduceCtorEq, ix64, ld3, ln64, h0, h1, h7, h8, Int.toNat_natCast, Nat.mul_one, hrd, hcell i hc', Array.empty_append, Array.append_empty, hp, IntWalk.i64_in (↑i + 1) (by omega)]
      refine ⟨⟨by omega, by omega⟩, two_intro (fun h => ?_) (fun h => ?_)⟩
      · rw [idxF_some hc' h hn]
      · refine ⟨i + 1, by omega, by simp, hc', ?_⟩
        intro x hx
        rw [List.take_succ_eq_append_getElem hc'] at hx
        rcases List.mem_append.1 hx with hx | hx
        · exact hn x hx
        · rw [List.mem_singleton.1 hx]; exact h
    · have hc' : ¬ i < l.length := by simpa using hc
      have hil : i = l.length := by omega
      subst hil
      rw [List.take_length] at hn
      rw [idxF_none hn]

set_option maxHeartbeats 4000000 in
theorem containsFuncI_ok {H : AH} {v : Value} {l : List Int} {g : FuncId} {p : Int → Bool} (hv : IntRow H v l) (hl : l.length < 4611686018427387904) (hp : ∀ x (H : AH) (Φ : Value → AH → Prop), CallsA Try.prog g #[.int .i64 x] H Φ = Φ (.bool (p x)) H) :
    CallsA Try.prog 99 #[v, .func (.func g) #[] #[]] H fun r H' => r = .bool (l.any p) ∧ H' = H := by
  have e := fun Φ => (indexFuncI_ok hv hl hp).eq0 (Φ := Φ)
  refine w99 ?_
  unfold k99
  simp -implicitDefEqProofs only [kz, kk0, kk1, kk2, kk3, ↓two_true, ↓two_false, oS_some, oM_some, mkv, aggAt, Nat.reduceLeDiff, Nat.reduceSub, Nat.reduceMul, implies_true, Nat.reduceEqDiff, reduceIte, Nat.reduceAdd, Nat.reduceBEq, reduceCtorEq, e, idxF_any]

theorem Rp.slice {P : Program} {H : AH} {k : Nat} {t e : TypeId} {vs : List Value} (hu : P.underlying t = some (.slice e)) (h : Rp P H k t vs) :
    vs = [.slice none 0 0] ∨ ∃ b n cs, vs = [.slice (some ⟨b, 0, none⟩) n (P.cellsOf e)] ∧ H[b]? = some ⟨cs, .ro⟩ ∧ cs.length = n * P.cellsOf e ∧ n ≤ maxLen ∧ ∃ k, ∀ i, i < n → Rp P H k e ((cs.drop (i * P.cellsOf e)).take (P.cellsOf e)) := by
  cases k with
  | zero => exact h.elim
  | succ k =>
    simp only [Rp, hu] at h
    rcases h with h | ⟨b, n, cs, h1, h2, h3, h4, h5⟩
    · exact .inl h
    · exact .inr ⟨b, n, cs, h1, h2, h3, h4, k, h5⟩
theorem rd_ro {H : AH} {b : Nat} {cs : List Value} (h : H[b]? = some ⟨cs, .ro⟩) : rd H b = some cs := by simp [rd, h, rdB]
theorem Rp.ints {P : Program} {H : AH} {k : Nat} {t e : TypeId} {vs : List Value} (hu : P.underlying t = some (.slice e)) (he : P.underlying e = some (.int .i64)) (hc : P.cellsOf e = 1) (h : Rp P H k t vs) :
    ∃ v l, vs = [v] ∧ IntRow H v l ∧ l.length ≤ 9223372036854775807 ∧ ∀ x ∈ l, I64 x := by
  rcases h.slice hu with rfl | ⟨b, n, cs, rfl, h2, h3, h4, k, h5⟩
  · exact ⟨_, [], rfl, .inl ⟨rfl, rfl⟩, by simp, by simp⟩
  · rw [hc, Nat.mul_one] at h3
    have key : ∀ i (hi : i < cs.length), ∃ m, cs[i] = .int .i64 m ∧ I64 m := by
      intro i hi
      have h6 := h5 i (by omega)
      rw [hc, Nat.mul_one] at h6
      obtain ⟨m, h7, h8⟩ := h6.int he
      have h9 : ((cs.drop i).take 1)[0]? = some cs[i] := by
        rw [List.getElem?_take_of_lt (by decide), List.getElem?_drop, Nat.add_zero, List.getElem?_eq_getElem hi]
      rw [h7] at h9
      simp at h9
      exact ⟨m, h9.symm, wf_i64 h8⟩
    have hmap : cs = Go.Proofs.Ytdagncfnkenbfaa.AM.ints (cs.map toI) := by
      refine List.ext_getElem (by simp [Go.Proofs.Ytdagncfnkenbfaa.AM.ints]) fun i h1 h2 => ?_
      obtain ⟨m, h3, _⟩ := key i h1
      simp [Go.Proofs.Ytdagncfnkenbfaa.AM.ints, h3, toI]
    refine ⟨_, cs.map toI, rfl, .inr ⟨b, 0, cs, by simp [h3, hc], rd_ro h2, by simp, ?_⟩, ?_, ?_⟩
    · rw [List.drop_zero, List.length_map, List.take_of_length_le (Nat.le_refl _)]
      exact hmap
    · simp only [List.length_map, h3]
      have : maxLen = 9223372036854775807 := by decide
      omega
    · intro x hx
      obtain ⟨y, hy, rfl⟩ := List.mem_map.1 hx
      obtain ⟨i, hi, rfl⟩ := List.mem_iff_getElem.1 hy
      obtain ⟨m, h6, h7⟩ := key i hi
      rw [h6]; exact h7
theorem Rp.bool {P : Program} {H : AH} {k : Nat} {t : TypeId} {vs : List Value} (hu : P.underlying t = some .bool) (h : Rp P H k t vs) : ∃ b, vs = [.bool b] := by
  cases k with
  | zero => exact h.elim
  | succ k => simpa only [Rp, hu] using h

theorem All2.append {H : AH} : ∀ {ks ks' : List CK} {x x' : List Value}, All2 H ks x → All2 H ks' x' → All2 H (ks ++ ks') (x ++ x')
  | [], _, x, _, h, h' => by cases h; exact h'
  | k :: ks, _, x, _, ⟨y, r, e, h1, h2⟩, h' => by subst e; exact ⟨y, _, rfl, h1, h2.append h'⟩
theorem splice_take_eq {xs x : List Value} {p : Nat} (h : p + x.length ≤ xs.length) : splice xs p x = xs.take p ++ x ++ xs.drop (p + x.length) := by
  refine List.ext_getElem? fun i => ?_
  rw [splice_get x xs p i h]
  have hl : (xs.take p).length = p := by simp; omega
  split
  · rename_i hi
    rw [List.append_assoc, List.getElem?_append_right (by omega), hl, List.getElem?_append_left (by omega)]
  · rename_i hi
    rcases Nat.lt_or_ge i p with h1 | h1
    · rw [List.append_assoc, List.getElem?_append_left (by omega), List.getElem?_take_of_lt h1]
    · rw [List.getElem?_append_right (by simp; omega), List.getElem?_drop]
      congr 1
      simp
      omega
/-- A whole element is written. -/
theorem New.put {H0 H1 H : AH} {ks : List CK} {n b i : Nat} {ys x : List Value} (s : Nat) (hs : ks.length = s) (h : New H0 H1 (.slice (some ⟨b, 0, none⟩) n s) ks n ys) (he : ∃ K, H = H1 ++ K) (hi : i < n) (hx : All2 H ks x) (ho : ∀ y ∈ x, OwnC H y) (hf : ∀ y ∈ x, ∀ b, blkOf y = some b → H1.length ≤ b)
    (hdj : x.Pairwise Dj) (h0 : H0.length ≤ H1.length) :
    ∃ cs, H[b]? = some ⟨cs, .own⟩ ∧ i * s + s ≤ cs.length ∧ New H0 (H.set b ⟨splice cs (0 + i * s) x, .own⟩) (.slice (some ⟨b, 0, none⟩) n s) ks n (splice ys (i * s) x) ∧
      (cvs (H.set b ⟨splice cs (0 + i * s) x, .own⟩) (splice ys (i * s) x)).take ((i + 1) * s) = (cvs H1 ys).take (i * s) ++ x.map (cv H) := by
  subst hs
  have hot := h.ot
  obtain ⟨K, rfl⟩ := he
  have hot2 := h.ot.mono (L := K)
  have hr := row_lt (s := ks.length) hi
  have hxl := hx.len
  have hyl := hot.len
  rcases hot2.row with ⟨h1, _⟩ | ⟨b', o', cs, h1, h2, h3, h4⟩
  · cases h1
  simp only [Value.slice.injEq, Option.some.injEq, Addr.mk.injEq] at h1
  obtain ⟨⟨rfl, rfl, _⟩, _, _⟩ := h1
  have hb1 : b < H1.length := hot.lt b (.inl rfl)
  refine ⟨cs, h2, by omega, ?_, ?_⟩
  all_goals
    have hs2 : ∀ g, g ≠ b → ((H1 ++ K).set b ⟨splice cs (0 + i * ks.length) x, .own⟩)[g]? = (H1 ++ K)[g]? := fun g hg => List.getElem?_set_ne (Ne.symm hg)
    have hget : ∀ (j : Nat) y, (splice ys (i * ks.length) x)[j]? = some y → (i * ks.length ≤ j ∧ j < i * ks.length + ks.length ∧ x[j - i * ks.length]? = some y) ∨ (¬ (i * ks.length ≤ j ∧ j < i * ks.length + ks.length) ∧ ys[j]? = some y) := by
      intro j y hy
      rw [splice_get x ys _ j (by omega), hxl] at hy
      split at hy
      · rename_i hj; exact .inl ⟨hj.1, hj.2, hy⟩
      · rename_i hj; exact .inr ⟨hj, hy⟩
    have hcell : ∀ y, (y ∈ x ∨ y ∈ ys) → ∀ g, blkOf y = some g → ((H1 ++ K).set b ⟨splice cs (0 + i * ks.length) x, .own⟩)[g]? = (H1 ++ K)[g]? := by
      intro y hy g hg
      refine hs2 g ?_
      rintro rfl
      rcases hy with hy | hy
      · have := hf y hy g hg; omega
      · obtain ⟨j, hj⟩ := List.mem_iff_getElem?.1 hy
        exact hot.out j y hj g rfl hg
  · refine ⟨⟨by rw [splice_length]; exact hyl, .inr ⟨b, 0, _, rfl, set_at h2, by rw [splice_length]; omega, ?_⟩, ?_, ?_, ?_, ?_⟩, ?_⟩
    · intro j y hy
      rw [splice_get x cs _ _ (by omega), hxl]
      rcases hget j y hy with ⟨a1, a2, a3⟩ | ⟨a1, a2⟩
      · rw [if_pos (by omega), show 0 + j - (0 + i * ks.length) = j - i * ks.length by omega]; exact a3
      · rw [if_neg (by omega)]; exact h4 j y a2
    · intro i' c k y hi' hk hy
      have hc := (List.getElem?_eq_some_iff.1 hk).1
      rcases hget _ y hy with ⟨a1, a2, a3⟩ | ⟨a1, a2⟩
      · have e : i' = i := by
          rcases Nat.lt_trichotomy i' i with h5 | h5 | h5
          · have := row_lt (s := ks.length) h5; omega
          · exact h5
          · have := row_lt (s := ks.length) h5; omega
        subst e
        rw [Nat.add_sub_cancel_left] at a3
        exact (hx.get c k y hk a3).same fun g hg => get_rd (hcell y (.inl (List.mem_of_getElem? a3)) g hg)
      · exact (hot2.ok i' c k y hi' hk a2).same fun g hg => get_rd (hcell y (.inr (List.mem_of_getElem? a2)) g hg)
    · intro j y hy
      rcases hget j y hy with ⟨a1, a2, a3⟩ | ⟨a1, a2⟩
      · exact (ho y (List.mem_of_getElem? a3)).same (hcell y (.inl (List.mem_of_getElem? a3)))
      · exact (hot2.own j y a2).same (hcell y (.inr (List.mem_of_getElem? a2)))
    · intro j y hy g hg hg2
      simp [blkOf] at hg
      subst hg
      rcases hget j y hy with ⟨a1, a2, a3⟩ | ⟨a1, a2⟩
      · have := hf y (List.mem_of_getElem? a3) b hg2; omega
      · exact hot.out j y a2 b rfl hg2
    · intro j j' y z hjj hy hz
      have cross : ∀ y z, y ∈ x → z ∈ ys → Dj y z := fun y z hy hz g hg hg2 => by
        have := hf y hy g hg; have := hot.lt g (.inr ⟨z, hz, hg2⟩); omega
      rcases hget j y hy with ⟨a1, a2, a3⟩ | ⟨a1, a2⟩ <;> rcases hget j' z hz with ⟨b1, b2, b3⟩ | ⟨b1, b2⟩
      · exact pw_get hdj _ _ y z (by omega) a3 b3
      · exact cross y z (List.mem_of_getElem? a3) (List.mem_of_getElem? b2)
      · exact (cross z y (List.mem_of_getElem? b3) (List.mem_of_getElem? a2)).symm
      · exact hot.dif j j' y z hjj a2 b2
    · rintro g (hg | ⟨y, hy, hg⟩)
      · exact h.fr g (.inl hg)
      · obtain ⟨j, hj⟩ := List.mem_iff_getElem?.1 hy
        rcases hget j y hj with ⟨a1, a2, a3⟩ | ⟨a1, a2⟩
        · have := hf y (List.mem_of_getElem? a3) g hg; omega
        · exact h.fr g (.inr ⟨y, List.mem_of_getElem? a2, hg⟩)
  · have e1 : splice ys (i * ks.length) x = ys.take (i * ks.length) ++ x ++ ys.drop (i * ks.length + x.length) := splice_take_eq (by omega)
    rw [e1]
    unfold cvs
    rw [List.map_append, List.take_append_of_le_length (by simp; rw [Nat.add_mul]; omega), List.take_of_length_le (by simp; rw [Nat.add_mul]; omega), List.map_append, ← List.map_take]
    congr 1
    · refine List.map_congr_left fun y hy => ?_
      have hmem := List.mem_of_mem_take hy
      rw [cv_same fun g hg => get_rd (hcell y (.inr hmem) g hg)]
      obtain ⟨j, hj⟩ := List.mem_iff_getElem?.1 hmem
      obtain ⟨kd, hkd⟩ := hot.frow.cell hj
      exact cv_mono hkd
    · exact List.map_congr_left fun y hy => cv_same fun g hg => get_rd (hcell y (.inl hy) g hg)

inductive Comp where
  | cells (ks : List CK) (xs : List Value)
  | row (v : Value) (ks : List CK) (n : Nat) (xs : List Value)
def Comp.xs : Comp → List Value
  | .cells _ xs => xs
  | .row _ _ _ xs => xs
def Comp.bs : Comp → Nat → Prop
  | .cells _ xs, b => ∃ y ∈ xs, blkOf y = some b
  | .row v _ _ xs, b => blkOf v = some b ∨ ∃ y ∈ xs, blkOf y = some b
def Comp.rd (H : AH) : Comp → Prop
  | .cells ks xs => All2 H ks xs
  | .row v ks n xs => FRow H v ks n xs
def Comp.own (H : AH) : Comp → Prop
  | .cells ks xs => All2 H ks xs ∧ (∀ y ∈ xs, OwnC H y) ∧ xs.Pairwise Dj
  | .row v ks n xs => OT H v ks n xs
theorem All2.rdable {H : AH} {ks : List CK} {xs : List Value} (h : All2 H ks xs) : ∀ b, (∃ y ∈ xs, blkOf y = some b) → (Go.Proofs.Ytdagncfnkenbfaa.AM.rd H b).isSome = true := by
  rintro b ⟨y, hy, hb⟩
  obtain ⟨k, hk⟩ := h.mem hy
  exact hk.rdable b hb
theorem All2.same {H H' : AH} {ks : List CK} {xs : List Value} (h : All2 H ks xs) (hs : ∀ b, (∃ y ∈ xs, blkOf y = some b) → Go.Proofs.Ytdagncfnkenbfaa.AM.rd H' b = Go.Proofs.Ytdagncfnkenbfaa.AM.rd H b) : All2 H' ks xs :=
  All2.of h.len fun c k y hk hy => (h.get c k y hk hy).same fun b hb => hs b ⟨y, List.mem_of_getElem? hy, hb⟩
theorem Comp.own.rd {H : AH} {c : Comp} (h : c.own H) : c.rd H := by
  cases c with
  | cells ks xs => exact h.1
  | row v ks n xs => exact OT.frow h
theorem Comp.rd.able {H : AH} {c : Comp} (h : c.rd H) : ∀ b, c.bs b → (Go.Proofs.Ytdagncfnkenbfaa.AM.rd H b).isSome = true := by
  cases c with
  | cells ks xs => exact All2.rdable h
  | row v ks n xs => exact FRow.rdable h
theorem rd_lt {H : AH} {b : Nat} (h : (Go.Proofs.Ytdagncfnkenbfaa.AM.rd H b).isSome = true) : b < H.length := by
  rcases Nat.lt_or_ge b H.length with h1 | h1
  · exact h1
  · unfold Go.Proofs.Ytdagncfnkenbfaa.AM.rd at h; rw [List.getElem?_eq_none h1] at h; cases h
theorem Comp.rd.same {H H' : AH} {c : Comp} (h : c.rd H) (hs : ∀ b, c.bs b → H'[b]? = H[b]?) : c.rd H' ∧ cvs H' c.xs = cvs H c.xs := by
  cases c with
  | cells ks xs => exact ⟨All2.same h fun b hb => get_rd (hs b hb), FRow.cvs_same fun b hb => get_rd (hs b hb)⟩
  | row v ks n xs => exact ⟨FRow.same h fun b hb => get_rd (hs b hb), FRow.cvs_same fun b hb => get_rd (hs b (.inr hb))⟩
theorem Comp.own.same {H H' : AH} {c : Comp} (h : c.own H) (hs : ∀ b, c.bs b → H'[b]? = H[b]?) : c.own H' := by
  cases c with
  | cells ks xs => exact ⟨(Comp.rd.same (c := .cells ks xs) h.1 hs).1, fun y hy => (h.2.1 y hy).same fun b hb => hs b ⟨y, hy, hb⟩, h.2.2⟩
  | row v ks n xs => exact OT.same h hs
def bsL (l : List Comp) (b : Nat) : Prop := ∃ c ∈ l, c.bs b
def Rd (H : AH) (l : List Comp) : Prop := ∀ c ∈ l, c.rd H
def cdj (c d : Comp) : Prop := ∀ b, c.bs b → ¬ d.bs b
def Own (H : AH) (l : List Comp) : Prop := (∀ c ∈ l, c.own H) ∧ l.Pairwise cdj
def mvs (H : AH) (l : List Comp) : List (List CV) := l.map fun c => cvs H c.xs
theorem Own.rd {H : AH} {l : List Comp} (h : Own H l) : Rd H l := fun c hc => (h.1 c hc).rd
theorem Rd.same {H H' : AH} {l : List Comp} (h : Rd H l) (hs : ∀ b, bsL l b → H'[b]? = H[b]?) : Rd H' l ∧ mvs H' l = mvs H l :=
  ⟨fun c hc => (Comp.rd.same (h c hc) fun b hb => hs b ⟨c, hc, hb⟩).1, List.map_congr_left fun c hc => (Comp.rd.same (h c hc) fun b hb => hs b ⟨c, hc, hb⟩).2⟩
theorem Own.same {H H' : AH} {l : List Comp} (h : Own H l) (hs : ∀ b, bsL l b → H'[b]? = H[b]?) : Own H' l := ⟨fun c hc => (h.1 c hc).same fun b hb => hs b ⟨c, hc, hb⟩, h.2⟩
theorem Rd.lt {H : AH} {l : List Comp} (h : Rd H l) : ∀ b, bsL l b → b < H.length := by
  rintro b ⟨c, hc, hb⟩
  exact rd_lt (Comp.rd.able (h c hc) b hb)
inductive LI where
  | blk (b : Nat) (k : Blk)
  | rd (l : List Comp) (V : List (List CV))
  | own (l : List Comp) (V : List (List CV))
def LI.ok (H : AH) : LI → Prop
  | .blk b k => H[b]? = some k
  | .rd l V => Rd H l ∧ mvs H l = V
  | .own l V => Own H l ∧ mvs H l = V
def LI.bs : LI → Nat → Prop
  | .blk b _, g => g = b
  | .rd l _, g => bsL l g
  | .own l _, g => bsL l g
theorem LI.ok.same {H H' : AH} {x : LI} (h : x.ok H) (hs : ∀ b, x.bs b → H'[b]? = H[b]?) : x.ok H' := by
  cases x with
  | blk b k => show H'[b]? = some k; rw [hs b rfl]; exact h
  | rd l V => obtain ⟨h1, h2⟩ := Rd.same h.1 hs; exact ⟨h1, by rw [h2]; exact h.2⟩
  | own l V => exact ⟨h.1.same hs, by rw [(Rd.same h.1.rd hs).2]; exact h.2⟩
theorem LI.ok.lt {H : AH} {x : LI} (h : x.ok H) : ∀ b, x.bs b → b < H.length := by
  cases x with
  | blk b k => intro g hg; cases hg; exact (List.getElem?_eq_some_iff.1 h).1
  | rd l V => exact Rd.lt h.1
  | own l V => exact Rd.lt h.1.rd
theorem LI.ok.ext {H H' : AH} {x : LI} (h : x.ok H) (he : ∃ K, H' = H ++ K) : x.ok H' := by
  obtain ⟨K, rfl⟩ := he
  exact h.same fun b hb => List.getElem?_append_left (h.lt b hb)
theorem LI.ok.box {H : AH} {cs : List Value} : LI.ok (H ++ [⟨cs, .own⟩]) (.blk H.length ⟨cs, .own⟩) := by
  show (H ++ [⟨cs, .own⟩])[H.length]? = _
  rw [gt0]; rfl
/-- What is alive stands beside the blocks from 'lo' to 'hi'. -/
def LI.off (lo hi : Nat) (x : LI) : Prop := ∀ b, x.bs b → ¬ (lo ≤ b ∧ b < hi)
theorem LI.ok.frame {H H' : AH} {x : LI} {lo hi : Nat} (h : x.ok H) (hf : ∀ b, b < H.length → ¬ (lo ≤ b ∧ b < hi) → H'[b]? = H[b]?) (ho : x.off lo hi) : x.ok H' := h.same fun b hb => hf b (h.lt b hb) (ho b hb)
/-- The blocks of what is alive. -/
def LI.rg (lo hi : Nat) (x : LI) : Prop := ∀ b, x.bs b → lo ≤ b ∧ b < hi
theorem LI.rg.off {x : LI} {lo hi lo' hi' : Nat} (h : x.rg lo hi) (hd : hi ≤ lo' ∨ hi' ≤ lo) : x.off lo' hi' := fun b hb => by have := h b hb; omega
/-- New things. -/
structure NewL (H0 H : AH) (l : List Comp) (V : List (List CV)) : Prop where
  own : Own H l
  fr : ∀ b, bsL l b → H0.length ≤ b
  vals : mvs H l = V
theorem NewL.ok {H0 H : AH} {l : List Comp} {V : List (List CV)} (h : NewL H0 H l V) : LI.ok H (.own l V) ∧ LI.rg H0.length H.length (.own l V) :=
  ⟨⟨h.own, h.vals⟩, fun b hb => ⟨h.fr b hb, h.own.rd.lt b hb⟩⟩
/-- What marking does. -/
structure Marked (H : AH) (l : List Comp) (k : Int) (H' : AH) (l' : List Comp) : Prop where
  own : Own H' l'
  bs : ∀ b, bsL l' b ↔ bsL l b
  len : H.length ≤ H'.length
  frame : ∀ b, b < H.length → ¬ bsL l b → H'[b]? = H[b]?
  vals : (mvs H' l').flatten = markF (mvs H l).flatten k
theorem Marked.ok {H H' : AH} {l l' : List Comp} {V : List (List CV)} {k : Int} {lo hi : Nat} (h : Marked H l k H' l') (hr : LI.rg lo hi (.own l V)) : LI.ok H' (.own l' (mvs H' l')) ∧ (∀ b, b < H.length → ¬ (lo ≤ b ∧ b < hi) → H'[b]? = H[b]?) :=
  ⟨⟨h.own, rfl⟩, fun b hl hb => h.frame b hl fun hb2 => hb (hr b hb2)⟩
theorem LI.ok.rd {H : AH} {l : List Comp} {V : List (List CV)} (h : LI.ok H (.own l V)) : LI.ok H (.rd l V) := ⟨h.1.rd, h.2⟩
theorem LI.row {H : AH} {v : Value} {ks : List CK} {n : Nat} {xs : List Value} {V : List CV} (h : LI.ok H (.rd [.row v ks n xs] [V])) : FRow H v ks n xs ∧ cvs H xs = V := by
  refine ⟨h.1 _ (List.mem_singleton.2 rfl), ?_⟩
  have := h.2
  simpa [mvs, Comp.xs] using this
theorem numOk_iff {x : Int} : numOk x = true ↔ -1000000000000 ≤ x ∧ x ≤ 1000000000000 := by unfold numOk; exact inB_true
/-- What a function answers that makes an array and a code. -/
def ARes (H H' : AH) (r : Value) (R : (List Int × List Int) × Int) : Prop :=
  (∃ a c b d, r = .tuple #[.agg #[.slice a R.1.1.length c, .slice b R.1.2.length d], .int .i64 R.2] ∧ AOwn H H' (.agg #[.slice a R.1.1.length c, .slice b R.1.2.length d]) R.1.1 R.1.2 (.slice a R.1.1.length c) (.slice b R.1.2.length d)) ∧ ∃ K, H' = H ++ K
theorem ARes.nil {H H' : AH} {c : Int} (he : ∃ K, H' = H ++ K) : ARes H H' (.tuple #[.agg #[.slice none 0 0, .slice none 0 0], .int .i64 c]) (([], []), c) :=
  ⟨⟨Option.none, 0, Option.none, 0, rfl, ⟨rfl, OwnRow.nil, OwnRow.nil, fun b hb => by simp [blkOf] at hb, fun b hb => by simp [blkOf] at hb, fun b hb => by simp [blkOf] at hb⟩⟩, he⟩
structure Gro (H0 : AH) (bx : List (Nat × Blk)) (o : Nat) (sh : Value) (ss : List Int) (a' : Option Addr) (c' : Nat) (l : List Int) (H : AH) : Prop where
  bs : ∀ x ∈ bx, H[x.1]? = some x.2 ∧ x.1 < o
  out : H[o]? = some ⟨[sh, .slice a' l.length c'], .own⟩
  osh : OwnRow H sh ss
  od : OwnRow H (.slice a' l.length c') l
  nd : ∀ b, blkOf (.slice a' l.length c') = some b → o < b
  ns : ∀ b, blkOf sh = some b → H0.length ≤ b ∧ b < o ∧ ∀ x ∈ bx, x.1 ≠ b
  n0 : H0.length ≤ o
  ext : ∃ K, H = H0 ++ K
theorem Gro.mono {H0 H L : AH} {bx : List (Nat × Blk)} {o : Nat} {sh : Value} {ss : List Int} {a' : Option Addr} {c' : Nat} {l : List Int} (h : Gro H0 bx o sh ss a' c' l H) : Gro H0 bx o sh ss a' c' l (H ++ L) :=
  ⟨fun x hx => ⟨gtl (h.bs x hx).1, (h.bs x hx).2⟩, gtl h.out, h.osh.mono, h.od.mono, h.nd, h.ns, h.n0, app_ext h.ext⟩
/-- Numbers are put behind, and the box is written anew. -/
theorem Gro.push {H0 H H2 : AH} {bx : List (Nat × Blk)} {o : Nat} {sh : Value} {ss : List Int} {a' a2 : Option Addr} {c' c2 : Nat} {l m : List Int} (h : Gro H0 bx o sh ss a' c' l H)
    (ho : OwnRow H2 (.slice a2 (l.length + m.length) c2) (l ++ m)) (ha : App H (.slice a' l.length c') H2 (.slice a2 (l.length + m.length) c2)) :
    H2[o]? = some ⟨[sh, .slice a' l.length c'], .own⟩ ∧ (∀ x ∈ bx, H2[x.1]? = some x.2) ∧ Gro H0 bx o sh ss a2 c2 (l ++ m) (H2.set o ⟨[sh, .slice a2 (l.length + m.length) c2], .own⟩) := by
  have hne : ∀ b, b ≤ o → blkOf (.slice a' l.length c') ≠ some b := fun b hb e => by have := h.nd b e; omega
  have hol := (List.getElem?_eq_some_iff.1 h.out).1
  have k1 : H2[o]? = _ := (ha.keep o hol (hne o (Nat.le_refl _))).trans h.out
  have k2 : ∀ x ∈ bx, H2[x.1]? = some x.2 := fun x hx => by
    have := h.bs x hx
    rw [ha.keep x.1 (by omega) (hne _ (by omega)), this.1]
  have hn2 : ∀ b, blkOf (.slice a2 (l.length + m.length) c2) = some b → o < b := fun b hb => (ha.new b hb).elim (h.nd b) fun h => by omega
  refine ⟨k1, k2, ⟨fun x hx => ⟨?_, (h.bs x hx).2⟩, ?_, ?_, ?_, ?_, h.ns, h.n0, ?_⟩⟩
  · rw [List.getElem?_set_ne (by have := (h.bs x hx).2; omega)]
    exact k2 x hx
  · rw [List.length_append]; exact set_at k1
  · refine (ha.own h.osh fun b hb => hne b (by have := h.ns b hb; omega)).set fun e => ?_
    have := h.ns _ e; omega
  · rw [List.length_append]
    exact ho.set fun e => by have := hn2 _ e; omega
  · rw [List.length_append]; exact hn2
  · exact set_ext (ha.ext h.ext fun b hb => by have := h.nd b hb; have := h.n0; omega) h.n0
theorem Gro.aown {H0 H : AH} {bx : List (Nat × Blk)} {o : Nat} {sh : Value} {ss : List Int} {a' : Option Addr} {c' : Nat} {l : List Int} (h : Gro H0 bx o sh ss a' c' l H) {b : Nat} {k : Blk} (hb : b < o) (hs : blkOf sh ≠ some b) (h0 : H0.length ≤ b) :
    AOwn H0 (H.set b k) (.agg #[sh, .slice a' l.length c']) ss l sh (.slice a' l.length c') ∧ ∃ K, H.set b k = H0 ++ K := by
  refine ⟨⟨rfl, h.osh.set hs, h.od.set fun e => ?_, fun g h1 h2 => ?_, fun g hg => (h.ns g hg).1, fun g hg => ?_⟩, set_ext h.ext h0⟩
  · have := h.nd _ e; omega
  · have := h.nd _ h2; have := h.ns _ h1; omega
  · have := h.nd _ hg; have := h.n0; omega
/-- Bytes that may be read. -/
def BRow (H : AH) (a : Option Addr) (n c : Nat) : Prop := 0 < n → ∃ b o cs, a = some ⟨b, o, none⟩ ∧ c = 1 ∧ H[b]? = some ⟨cs, .ro⟩ ∧ ∀ j, j < n → ∃ v : Int, cs[o + j]? = some (.int .u8 v) ∧ 0 ≤ v ∧ v ≤ 255
/-- A cursor. -/
def Cur (H : AH) (cb : Nat) : Prop := ∃ (a : Option Addr) (n c i : Nat) (h : Int), H[cb]? = some ⟨[.slice a n c, .int .i64 i, .int .i64 h], .own⟩ ∧ i ≤ n ∧ n ≤ 1048576 ∧ BRow H a n c
structure Frm (cb : Nat) (H H' : AH) : Prop where
  len : H.length ≤ H'.length
  keep : ∀ b, b < H.length → b ≠ cb → H'[b]? = H[b]?
  cur : Cur H' cb
theorem BRow.keep {H H' : AH} {a : Option Addr} {n c cb : Nat} (h : BRow H a n c) (hk : ∀ b, b < H.length → b ≠ cb → H'[b]? = H[b]?) (hc : ∀ cs, H[cb]? ≠ some ⟨cs, .ro⟩) : BRow H' a n c := by
  intro hn
  obtain ⟨b, o, cs, h1, h2, h3, h4⟩ := h hn
  refine ⟨b, o, cs, h1, h2, ?_, h4⟩
  rw [hk b (List.getElem?_eq_some_iff.1 h3).1 (by rintro rfl; exact hc cs h3)]
  exact h3
theorem Cur.lt {H : AH} {cb : Nat} (h : Cur H cb) : cb < H.length := by
  obtain ⟨a, n, c, i, h, h1, _⟩ := h
  exact (List.getElem?_eq_some_iff.1 h1).1
theorem Cur.mono {H L : AH} {cb : Nat} (h : Cur H cb) : Cur (H ++ L) cb := by
  obtain ⟨a, n, c, i, x, h1, h2, h3, h4⟩ := h
  refine ⟨a, n, c, i, x, gtl h1, h2, h3, fun hn => ?_⟩
  obtain ⟨b, o, cs, g1, g2, g3, g4⟩ := h4 hn
  exact ⟨b, o, cs, g1, g2, gtl g3, g4⟩
theorem Frm.refl {H : AH} {cb : Nat} (h : Cur H cb) : Frm cb H H := ⟨Nat.le_refl _, fun _ _ _ => rfl, h⟩
theorem Frm.trans {cb : Nat} {H H1 H2 : AH} (h : Frm cb H H1) (h' : Frm cb H1 H2) : Frm cb H H2 :=
  ⟨Nat.le_trans h.len h'.len, fun b hb hn => by rw [h'.keep b (Nat.lt_of_lt_of_le hb h.len) hn, h.keep b hb hn], h'.cur⟩
theorem Frm.app {cb : Nat} {H H1 L : AH} (h : Frm cb H H1) : Frm cb H (H1 ++ L) :=
  ⟨by have := h.len; simp; omega, fun b hb hn => by rw [List.getElem?_append_left (Nat.lt_of_lt_of_le hb h.len), h.keep b hb hn], h.cur.mono⟩
theorem Frm.own {cb : Nat} {H H1 : AH} {v : Value} {l : List Int} (h : Frm cb H H1) (ho : OwnRow H v l) (hn : blkOf v ≠ some cb) : OwnRow H1 v l :=
  ho.same fun b hb => h.keep b (ho.lt b hb) (by rintro rfl; exact hn hb)
theorem Frm.at {cb : Nat} {H H1 : AH} {b : Nat} {k : Blk} (h : Frm cb H H1) (hb : H[b]? = some k) (hn : b ≠ cb) : H1[b]? = some k := by
  rw [h.keep b (List.getElem?_eq_some_iff.1 hb).1 hn, hb]
theorem Cur.set {H : AH} {cb b : Nat} {k : Blk} (h : Cur H cb) (hb : ∀ cs, H[b]? ≠ some ⟨cs, .ro⟩) (hn : b ≠ cb) : Cur (H.set b k) cb := by
  obtain ⟨a, n, c, i, x, h1, h2, h3, h4⟩ := h
  refine ⟨a, n, c, i, x, by rw [List.getElem?_set_ne hn]; exact h1, h2, h3, fun hn0 => ?_⟩
  obtain ⟨b', o, cs, g1, g2, g3, g4⟩ := h4 hn0
  refine ⟨b', o, cs, g1, g2, ?_, g4⟩
  rw [List.getElem?_set_ne (by rintro rfl; exact hb cs g3)]
  exact g3
/-- A block behind the heap is written. -/
theorem Frm.set {cb b : Nat} {H H1 : AH} {k : Blk} {cs : List Value} (h : Frm cb H H1) (hb : H1[b]? = some ⟨cs, .own⟩) (hl : H.length ≤ b) (hn : b ≠ cb) : Frm cb H (H1.set b k) :=
  ⟨by rw [List.length_set]; exact h.len, fun g hg hgn => by rw [List.getElem?_set_ne (by omega)]; exact h.keep g hg hgn, h.cur.set (fun cs' e => by rw [hb] at e; cases e) hn⟩

set_option maxHeartbeats 4000000 in
theorem l1Byte_ok {H : AH} {cb : Nat} (hc : Cur H cb) : CallsA Try.prog 71 #[.pointer (some ⟨cb, 0, none⟩)] H fun r H' => (∃ v : Int, r = .int .i64 v ∧ 0 ≤ v ∧ v ≤ 255) ∧ Frm cb H H' := by
  obtain ⟨a, n, c, i, h, h1, hi, hn, hr⟩ := hc
  have m255 : (255 : Int) = ((255 : Nat) : Int) := rfl
  refine w71 ?_
  unfold k71
  have sh1 := @bin_shr Try.prog
  have hs : ∀ k : Int, Cur (H.set cb ⟨[.slice a n c, .int .i64 i, .int .i64 k], .own⟩) cb := fun k => ⟨a, n, c, i, k, set_at h1, hi, hn, hr.keep (cb := cb) (fun b hb hne => List.getElem?_set_ne (Ne.symm hne)) (fun cs e => by rw [h1] at e; cases e)⟩
  have q1 := fun k : Int => rd_own (set_at (k' := ⟨[.slice a n c, .int .i64 i, .int .i64 k], .own⟩) h1)
  have q2 := fun k : Int => wrt_own (set_at (k' := ⟨[.slice a n c, .int .i64 i, .int .i64 k], .own⟩) h1)
  simp -implicitDefEqProofs only [kz, kk0, kk1, kk2, kk3, ↓two_true, ↓two_false, oS_some, oM_some, mkv, aggAt, Nat.reduceLeDiff, Nat.reduceSub, Nat.reduceMul, implies_true, Nat.reduceEqDiff, reduceIte, Nat.reduceAdd, Nat.reduceBEq, reduceCtorEq, cv5_3, fa95_0, fa95_1, fa95_2, ix22, ld3, ld5, ld22, ln22, st3, rd_own h1, wrt_own h1, q1, q2, bin_shr (show ¬ (33 : Int) < 0 by decide), bin_shr (show ¬ (45 : Int) < 0 by decide)]
  generalize IntKind.i64.wrap (IntKind.i64.wrap (h * 6364136223846793005) + 1442695040888963407) = h'
  have hfr : ∀ (i' : Nat) (k : Int), i' ≤ n → Frm cb H (H.set cb ⟨[.slice a n c, .int .i64 i', .int .i64 k], .own⟩) := fun i' k hi' =>
    ⟨by simp, fun b hb hne => List.getElem?_set_ne (Ne.symm hne), ⟨a, n, c, i', k, set_at h1, hi', hn, hr.keep (cb := cb) (fun b hb hne => List.getElem?_set_ne (Ne.symm hne)) (fun cs e => by rw [h1] at e; cases e)⟩⟩
  refine two_intro (fun hlt => ?_) (fun hlt => ?_)
  · have hlt' : i < n := by simpa using hlt
    obtain ⟨b, o, cs, rfl, rfl, hb, hcell⟩ := hr (by omega)
    obtain ⟨v, hv, v0, v1⟩ := hcell i hlt'
    have hbc : b ≠ cb := by rintro rfl; rw [h1] at hb; cases hb
    have hrb : rd (H.set cb ⟨[.slice (some ⟨b, o, none⟩) n 1, .int .i64 i, .int .i64 h'], .own⟩) b = some cs := by
      unfold rd; rw [List.getElem?_set_ne (Ne.symm hbc), hb]; rfl
    simp -implicitDefEqProofs only [kz, kk0, kk1, kk2, kk3, ↓two_true, ↓two_false, oS_some, oM_some, mkv, aggAt, Nat.reduceLeDiff, Nat.reduceSub, Nat.reduceMul, implies_true, Nat.reduceEqDiff, reduceIte, Nat.reduceAdd, Nat.reduceBEq, reduceCtorEq, cv5_3, fa95_0, fa95_1, fa95_2, ix22, ld3, ld5, ld22, ln22, st3, Int.toNat_natCast, Nat.mul_one, hrb, hv, q1, q2, IntWalk.i64_in (↑i + 1) (by omega)]
    have hand := fun x : Int => and_le (a := x) (m := 255) (by decide)
    refine ⟨⟨by omega, by omega⟩, ⟨_, rfl, hand _⟩, ?_⟩
    rw [list_set_set]
    exact hfr (i + 1) h' hlt'
  · have hand := fun x : Int => and_le (a := x) (m := 255) (by decide)
    exact ⟨⟨_, rfl, hand _⟩, hfr i h' hi⟩

theorem tmod_rng {a n : Int} (ha : 0 ≤ a) (hn : 0 < n) : 0 ≤ a.tmod n ∧ a.tmod n < n := by
  rw [Int.tmod_eq_emod_of_nonneg ha]
  exact ⟨Int.emod_nonneg _ (by omega), Int.emod_lt_of_pos _ hn⟩

set_option maxHeartbeats 4000000 in
theorem l1Below_ok {H : AH} {cb : Nat} {n : Int} (hc : Cur H cb) : CallsA Try.prog 35 #[.pointer (some ⟨cb, 0, none⟩), .int .i64 n] H fun r H' => (∃ v : Int, r = .int .i64 v ∧ (n ≤ 0 → v = 0) ∧ (0 < n → 0 ≤ v ∧ v < n)) ∧ Frm cb H H' := by
  refine w35 ?_
  unfold k35
  simp -implicitDefEqProofs only [kz, kk0, kk1, kk2, kk3, ↓two_true, ↓two_false, oS_some, oM_some, mkv, aggAt, Nat.reduceLeDiff, Nat.reduceSub, Nat.reduceMul, implies_true, Nat.reduceEqDiff, reduceIte, Nat.reduceAdd, Nat.reduceBEq, reduceCtorEq]
  refine two_intro (fun h => ?_) (fun h => ?_)
  · have h' : n ≤ 0 := by simpa using h
    exact ⟨⟨0, rfl, fun _ => rfl, fun h => by omega⟩, Frm.refl hc⟩
  · have hn0 : n ≠ 0 := by simp at h; omega
    have hp : 0 < n := by simp at h; omega
    refine two_intro (fun h2 => ?_) (fun h2 => ?_)
    · refine (l1Byte_ok hc).mono ?_
      rintro _ H1 ⟨⟨v, rfl, v0, v1⟩, hf⟩
      simp -implicitDefEqProofs only [kz, kk0, kk1, kk2, kk3, ↓two_true, ↓two_false, oS_some, oM_some, mkv, aggAt, Nat.reduceLeDiff, Nat.reduceSub, Nat.reduceMul, implies_true, Nat.reduceEqDiff, reduceIte, Nat.reduceAdd, Nat.reduceBEq, reduceCtorEq, bin_rem hn0]
      exact ⟨⟨_, rfl, fun h => by omega, fun _ => tmod_rng v0 hp⟩, hf⟩
    · refine (l1Byte_ok hc).mono ?_
      rintro _ H1 ⟨⟨v, rfl, v0, v1⟩, hf1⟩
      simp -implicitDefEqProofs only [kz, kk0, kk1, kk2, kk3, ↓two_true, ↓two_false, oS_some, oM_some, mkv, aggAt, Nat.reduceLeDiff, Nat.reduceSub, Nat.reduceMul, implies_true, Nat.reduceEqDiff, reduceIte, Nat.reduceAdd, Nat.reduceBEq, reduceCtorEq]
      refine (l1Byte_ok hf1.cur).mono ?_
      rintro _ H2 ⟨⟨w, rfl, w0, w1⟩, hf2⟩
      simp -implicitDefEqProofs only [kz, kk0, kk1, kk2, kk3, ↓two_true, ↓two_false, oS_some, oM_some, mkv, aggAt, Nat.reduceLeDiff, Nat.reduceSub, Nat.reduceMul, implies_true, Nat.reduceEqDiff, reduceIte, Nat.reduceAdd, Nat.reduceBEq, reduceCtorEq]
      refine (l1Byte_ok hf2.cur).mono ?_
      rintro _ H3 ⟨⟨x, rfl, x0, x1⟩, hf3⟩
      simp -implicitDefEqProofs only [kz, kk0, kk1, kk2, kk3, ↓two_true, ↓two_false, oS_some, oM_some, mkv, aggAt, Nat.reduceLeDiff, Nat.reduceSub, Nat.reduceMul, implies_true, Nat.reduceEqDiff, reduceIte, Nat.reduceAdd, Nat.reduceBEq, reduceCtorEq]
      refine (l1Byte_ok hf3.cur).mono ?_
      rintro _ H4 ⟨⟨y, rfl, y0, y1⟩, hf4⟩
      have z1 : IntKind.i64.wrap (v * 16777216) = v * 16777216 := IntWalk.i64_in _ (by omega)
      have z2 : IntKind.i64.wrap (w * 65536) = w * 65536 := IntWalk.i64_in _ (by omega)
      have z3 : IntKind.i64.wrap (v * 16777216 + w * 65536) = v * 16777216 + w * 65536 := IntWalk.i64_in _ (by omega)
      have z4 : IntKind.i64.wrap (x * 256) = x * 256 := IntWalk.i64_in _ (by omega)
      have z5 : IntKind.i64.wrap (v * 16777216 + w * 65536 + x * 256) = v * 16777216 + w * 65536 + x * 256 := IntWalk.i64_in _ (by omega)
      have z6 : IntKind.i64.wrap (v * 16777216 + w * 65536 + x * 256 + y) = v * 16777216 + w * 65536 + x * 256 + y := IntWalk.i64_in _ (by omega)
      simp -implicitDefEqProofs only [kz, kk0, kk1, kk2, kk3, ↓two_true, ↓two_false, oS_some, oM_some, mkv, aggAt, Nat.reduceLeDiff, Nat.reduceSub, Nat.reduceMul, implies_true, Nat.reduceEqDiff, reduceIte, Nat.reduceAdd, Nat.reduceBEq, reduceCtorEq, bin_rem hn0, z1, z2, z3, z4, z5, z6]
      exact ⟨⟨_, rfl, fun h => by omega, fun _ => tmod_rng (by omega) hp⟩, ((hf1.trans hf2).trans hf3).trans hf4⟩

set_option maxHeartbeats 4000000 in
theorem l1Once_ok {H : AH} {cb : Nat} {n : Int} (hc : Cur H cb) : CallsA Try.prog 34 #[.pointer (some ⟨cb, 0, none⟩), .int .i64 n] H fun r H' => (∃ v : Bool, r = .bool v) ∧ Frm cb H H' := by
  refine w34 ?_
  unfold k34
  simp -implicitDefEqProofs only [kz, kk0, kk1, kk2, kk3, ↓two_true, ↓two_false, oS_some, oM_some, mkv, aggAt, Nat.reduceLeDiff, Nat.reduceSub, Nat.reduceMul, implies_true, Nat.reduceEqDiff, reduceIte, Nat.reduceAdd, Nat.reduceBEq, reduceCtorEq]
  refine (l1Below_ok hc).mono ?_
  rintro _ H1 ⟨⟨v, rfl, _⟩, hf⟩
  simp -implicitDefEqProofs only [kz, kk0, kk1, kk2, kk3, ↓two_true, ↓two_false, oS_some, oM_some, mkv, aggAt, Nat.reduceLeDiff, Nat.reduceSub, Nat.reduceMul, implies_true, Nat.reduceEqDiff, reduceIte, Nat.reduceAdd, Nat.reduceBEq, reduceCtorEq]
  exact ⟨⟨_, rfl⟩, hf⟩

set_option maxHeartbeats 4000000 in
theorem l1PickInt_ok {H : AH} {cb : Nat} {v : Value} {l : List Int} (hc : Cur H cb) (hv : OwnRow H v l) (hn : blkOf v ≠ some cb) (hl : 0 < l.length) : CallsA Try.prog 68 #[.pointer (some ⟨cb, 0, none⟩), v] H fun r H' => (∃ x : Int, r = .int .i64 x ∧ x ∈ l) ∧ Frm cb H H' := by
  obtain ⟨b, o, cs, rfl, hb, hle, hcs⟩ := hv.blk hl
  have hbc : b ≠ cb := fun e => hn (by rw [e]; rfl)
  refine w68 ?_
  unfold k68
  simp -implicitDefEqProofs only [kz, kk0, kk1, kk2, kk3, ↓two_true, ↓two_false, oS_some, oM_some, mkv, aggAt, Nat.reduceLeDiff, Nat.reduceSub, Nat.reduceMul, implies_true, Nat.reduceEqDiff, reduceIte, Nat.reduceAdd, Nat.reduceBEq, reduceCtorEq, ix64, ld3, ln64]
  refine (l1Below_ok hc).mono ?_
  rintro _ H1 ⟨⟨v, rfl, _, h2⟩, hf⟩
  obtain ⟨v0, v1⟩ := h2 (by omega)
  have hb1 := hf.at hb hbc
  obtain ⟨j, rfl⟩ : ∃ j : Nat, v = j := ⟨v.toNat, by omega⟩
  have hj : j < l.length := by omega
  have hc1 := hcs j l[j] (List.getElem?_eq_getElem hj)
  simp -implicitDefEqProofs only [kz, kk0, kk1, kk2, kk3, ↓two_true, ↓two_false, oS_some, oM_some, mkv, aggAt, Nat.reduceLeDiff, Nat.reduceSub, Nat.reduceMul, implies_true, Nat.reduceEqDiff, reduceIte, Nat.reduceAdd, Nat.reduceBEq, reduceCtorEq, ix64, ld3, ln64, Int.toNat_natCast, Nat.mul_one, rd_own hb1, hc1]
  exact ⟨⟨by omega, by omega⟩, ⟨_, rfl, List.getElem_mem hj⟩, hf⟩

/-- A row of its own, no older than a heap. -/
structure DR (H0 H : AH) (v : Value) (l : List Int) : Prop where
  own : OwnRow H v l
  fr : ∀ b, blkOf v = some b → H0.length ≤ b
theorem OwnRow.new {H : AH} {l : List Int} : OwnRow (H ++ [⟨ints l, .own⟩]) (.slice (some ⟨H.length, 0, none⟩) l.length 1) l :=
  .inr ⟨H.length, 0, ints l, rfl, by rw [gt0]; rfl, by simp [ints], List.take_of_length_le (by simp [ints])⟩
theorem DR.new {H0 H : AH} {l : List Int} (h : H0.length ≤ H.length) : DR H0 (H ++ [⟨ints l, .own⟩]) (.slice (some ⟨H.length, 0, none⟩) l.length 1) l :=
  ⟨OwnRow.new, fun b hb => by simp [blkOf] at hb; omega⟩
theorem DR.lit {H0 H : AH} {cs : List Value} {n : Nat} (l : List Int) (h : H0.length ≤ H.length) (he : cs = ints l) (hn : n = l.length) : DR H0 (H ++ [⟨cs, .own⟩]) (.slice (some ⟨H.length, 0, none⟩) n 1) l := by
  subst he; subst hn; exact DR.new h
theorem DR.back {H0 H1 H : AH} {v : Value} {l : List Int} (h : DR H1 H v l) (hl : H0.length ≤ H1.length) : DR H0 H v l := ⟨h.own, fun b hb => Nat.le_trans hl (h.fr b hb)⟩
theorem DR.mono {H0 H L : AH} {v : Value} {l : List Int} (h : DR H0 H v l) : DR H0 (H ++ L) v l := ⟨h.own.mono, h.fr⟩
theorem DR.ne {H0 H : AH} {cb : Nat} {v : Value} {l : List Int} (h : DR H0 H v l) (hc : cb < H0.length) : blkOf v ≠ some cb := fun e => by have := h.fr _ e; omega
theorem Cur.same {H H' : AH} {cb : Nat} (h : Cur H cb) (h1 : H'[cb]? = H[cb]?) (h2 : ∀ (b : Nat) cs, H[b]? = some (⟨cs, .ro⟩ : Blk) → H'[b]? = some (⟨cs, .ro⟩ : Blk)) : Cur H' cb := by
  obtain ⟨a, n, c, i, x, g1, g2, g3, g4⟩ := h
  refine ⟨a, n, c, i, x, by rw [h1]; exact g1, g2, g3, fun hn => ?_⟩
  obtain ⟨b, o, cs, k1, k2, k3, k4⟩ := g4 hn
  exact ⟨b, o, cs, k1, k2, h2 b cs k3, k4⟩
theorem Frm.push {cb : Nat} {H0 H H' : AH} {v v' : Value} {l : List Int} (h : Frm cb H0 H) (ho : DR H0 H v l) (hc : cb < H0.length) (ha : App H v H' v') : Frm cb H0 H' := by
  refine ⟨Nat.le_trans h.len ha.len, fun b hb hn => ?_, h.cur.same (ha.keep _ h.cur.lt (ho.ne hc)) fun b cs hb => ?_⟩
  · rw [ha.keep b (Nat.lt_of_lt_of_le hb h.len) fun e => by have := ho.fr b e; omega, h.keep b hb hn]
  · rw [ha.keep b (List.getElem?_eq_some_iff.1 hb).1 fun e => ?_]
    · exact hb
    · rcases ho.own with ⟨rfl, _⟩ | ⟨b', o, cs', rfl, h2, _⟩
      · simp [blkOf] at e
      · simp [blkOf] at e; subst e; rw [hb] at h2; cases h2
theorem App.row {H H' : AH} {v v' w : Value} {m : List Int} {H0 : AH} (h : App H v H' v') (hw : DR H0 H w m) (hd : ∀ b, blkOf w = some b → blkOf v ≠ some b) : DR H0 H' w m := ⟨h.own hw.own hd, hw.fr⟩

set_option maxHeartbeats 4000000 in
theorem l1DrawNum_ok {H : AH} {cb : Nat} (hc : Cur H cb) : CallsA Try.prog 104 #[.pointer (some ⟨cb, 0, none⟩)] H fun r H' => (∃ v : Int, r = .int .i64 v ∧ numOk v = true) ∧ Frm cb H H' := by
  refine w104 ?_
  unfold k104
  simp -implicitDefEqProofs only [kz, kk0, kk1, kk2, kk3, ↓two_true, ↓two_false, oS_some, oM_some, mkv, aggAt, Nat.reduceLeDiff, Nat.reduceSub, Nat.reduceMul, implies_true, Nat.reduceEqDiff, reduceIte, Nat.reduceAdd, Nat.reduceBEq, reduceCtorEq, bs64_7]
  refine (l1Once_ok hc).mono ?_
  rintro _ H1 ⟨⟨v, rfl⟩, hf⟩
  simp -implicitDefEqProofs only [kz, kk0, kk1, kk2, kk3, ↓two_true, ↓two_false, oS_some, oM_some, mkv, aggAt, Nat.reduceLeDiff, Nat.reduceSub, Nat.reduceMul, implies_true, Nat.reduceEqDiff, reduceIte, Nat.reduceAdd, Nat.reduceBEq, reduceCtorEq, bs64_7]
  refine two_intro (fun h => ?_) (fun h => ?_)
  · refine (l1PickInt_ok (l := [1000000000000, -1000000000000, 999999999999, 1000000, -1000000, 1000001, 999999999999]) hf.cur.mono OwnRow.new (by have := hf.cur.lt; simp [blkOf]; omega) (by decide)).mono ?_
    rintro _ H2 ⟨⟨x, rfl, hx⟩, hg⟩
    simp -implicitDefEqProofs only [kz, kk0, kk1, kk2, kk3, ↓two_true, ↓two_false, oS_some, oM_some, mkv, aggAt, Nat.reduceLeDiff, Nat.reduceSub, Nat.reduceMul, implies_true, Nat.reduceEqDiff, reduceIte, Nat.reduceAdd, Nat.reduceBEq, reduceCtorEq, bs64_7]
    exact ⟨⟨x, rfl, (show ∀ x ∈ [1000000000000, -1000000000000, 999999999999, 1000000, -1000000, 1000001, 999999999999], numOk x = true by decide) x hx⟩, hf.app.trans hg⟩
  · refine (l1Below_ok hf.cur).mono ?_
    rintro _ H2 ⟨⟨x, rfl, _, hx⟩, hg⟩
    have hx := hx (by decide)
    simp -implicitDefEqProofs only [kz, kk0, kk1, kk2, kk3, ↓two_true, ↓two_false, oS_some, oM_some, mkv, aggAt, Nat.reduceLeDiff, Nat.reduceSub, Nat.reduceMul, implies_true, Nat.reduceEqDiff, reduceIte, Nat.reduceAdd, Nat.reduceBEq, reduceCtorEq, bs64_7]
    rw [IntWalk.i64_in (x - 6) (by omega)]
    refine ⟨⟨x - 6, rfl, ?_⟩, hf.trans hg⟩
    simp [numOk, inB]; omega

set_option maxHeartbeats 4000000 in
theorem l1DrawRaw_ok {H : AH} {cb : Nat} (hc : Cur H cb) : CallsA Try.prog 91 #[.pointer (some ⟨cb, 0, none⟩)] H fun r H' => (∃ v : Int, r = .int .i64 v ∧ I64 v) ∧ Frm cb H H' := by
  refine w91 ?_
  unfold k91
  simp -implicitDefEqProofs only [kz, kk0, kk1, kk2, kk3, ↓two_true, ↓two_false, oS_some, oM_some, mkv, aggAt, Nat.reduceLeDiff, Nat.reduceSub, Nat.reduceMul, implies_true, Nat.reduceEqDiff, reduceIte, Nat.reduceAdd, Nat.reduceBEq, reduceCtorEq, bs64_4]
  refine (l1Once_ok hc).mono ?_
  rintro _ H1 ⟨⟨v, rfl⟩, hf⟩
  simp -implicitDefEqProofs only [kz, kk0, kk1, kk2, kk3, ↓two_true, ↓two_false, oS_some, oM_some, mkv, aggAt, Nat.reduceLeDiff, Nat.reduceSub, Nat.reduceMul, implies_true, Nat.reduceEqDiff, reduceIte, Nat.reduceAdd, Nat.reduceBEq, reduceCtorEq, bs64_4]
  refine two_intro (fun h => ?_) (fun h => ?_)
  · refine (l1PickInt_ok (l := [1000000000001, -1000000000001, 9223372036854775807, -9223372036854775808]) hf.cur.mono OwnRow.new (by have := hf.cur.lt; simp [blkOf]; omega) (by decide)).mono ?_
    rintro _ H2 ⟨⟨x, rfl, hx⟩, hg⟩
    simp -implicitDefEqProofs only [kz, kk0, kk1, kk2, kk3, ↓two_true, ↓two_false, oS_some, oM_some, mkv, aggAt, Nat.reduceLeDiff, Nat.reduceSub, Nat.reduceMul, implies_true, Nat.reduceEqDiff, reduceIte, Nat.reduceAdd, Nat.reduceBEq, reduceCtorEq, bs64_4]
    refine ⟨⟨x, rfl, ?_⟩, hf.app.trans hg⟩
    simp only [List.mem_cons, List.not_mem_nil, or_false] at hx
    unfold I64; omega
  · refine (l1DrawNum_ok hf.cur).mono ?_
    rintro _ H2 ⟨⟨x, rfl, hx⟩, hg⟩
    simp -implicitDefEqProofs only [kz, kk0, kk1, kk2, kk3, ↓two_true, ↓two_false, oS_some, oM_some, mkv, aggAt, Nat.reduceLeDiff, Nat.reduceSub, Nat.reduceMul, implies_true, Nat.reduceEqDiff, reduceIte, Nat.reduceAdd, Nat.reduceBEq, reduceCtorEq, bs64_4]
    refine ⟨⟨x, rfl, ?_⟩, hf.trans hg⟩
    simp [numOk, inB] at hx; unfold I64; omega

/-- An array of its own that was drawn. -/
structure DA (H0 H : AH) (p q : Value) (sh dt : List Int) : Prop where
  sh : DR H0 H p sh
  dt : DR H0 H q dt
  dj : Dj p q
theorem DA.mono {H0 H L : AH} {p q : Value} {sh dt : List Int} (h : DA H0 H p q sh dt) : DA H0 (H ++ L) p q sh dt := ⟨h.sh.mono, h.dt.mono, h.dj⟩
theorem DA.back {H0 H1 H : AH} {p q : Value} {sh dt : List Int} (h : DA H1 H p q sh dt) (hl : H0.length ≤ H1.length) : DA H0 H p q sh dt := ⟨h.sh.back hl, h.dt.back hl, h.dj⟩
/-- An array that grows in a box, while there are draws. -/
structure GroF (cb : Nat) (H0 : AH) (bx : List (Nat × Blk)) (o : Nat) (sh : Value) (ss : List Int) (a' : Option Addr) (c' : Nat) (l : List Int) (H : AH) : Prop where
  bs : ∀ x ∈ bx, H[x.1]? = some x.2 ∧ x.1 < o ∧ x.1 ≠ cb
  out : H[o]? = some ⟨[sh, .slice a' l.length c'], .own⟩
  osh : DR H0 H sh ss
  od : DR H0 H (.slice a' l.length c') l
  nd : ∀ b, blkOf (.slice a' l.length c') = some b → o < b
  ns : ∀ b, blkOf sh = some b → b < o ∧ ∀ x ∈ bx, x.1 ≠ b
  n0 : H0.length ≤ o
  nc : cb < H0.length
  ext : Frm cb H0 H
theorem GroF.mono {cb : Nat} {H0 H L : AH} {bx : List (Nat × Blk)} {o : Nat} {sh : Value} {ss : List Int} {a' : Option Addr} {c' : Nat} {l : List Int} (h : GroF cb H0 bx o sh ss a' c' l H) : GroF cb H0 bx o sh ss a' c' l (H ++ L) :=
  ⟨fun x hx => ⟨gtl (h.bs x hx).1, (h.bs x hx).2⟩, gtl h.out, h.osh.mono, h.od.mono, h.nd, h.ns, h.n0, h.nc, h.ext.app⟩
/-- Numbers are put behind, and the box is written anew. -/
theorem GroF.push {cb : Nat} {H0 H H2 : AH} {bx : List (Nat × Blk)} {o : Nat} {sh : Value} {ss : List Int} {a' a2 : Option Addr} {c' c2 : Nat} {l m : List Int} (h : GroF cb H0 bx o sh ss a' c' l H)
    (ho : OwnRow H2 (.slice a2 (l.length + m.length) c2) (l ++ m)) (ha : App H (.slice a' l.length c') H2 (.slice a2 (l.length + m.length) c2)) :
    H2[o]? = some ⟨[sh, .slice a' l.length c'], .own⟩ ∧ (∀ x ∈ bx, H2[x.1]? = some x.2) ∧ GroF cb H0 bx o sh ss a2 c2 (l ++ m) (H2.set o ⟨[sh, .slice a2 (l.length + m.length) c2], .own⟩) := by
  have hne : ∀ b, b ≤ o → blkOf (.slice a' l.length c') ≠ some b := fun b hb e => by have := h.nd b e; omega
  have hol := (List.getElem?_eq_some_iff.1 h.out).1
  have hn0 := h.n0
  have hnc := h.nc
  have k1 : H2[o]? = _ := (ha.keep o hol (hne o (Nat.le_refl _))).trans h.out
  have k2 : ∀ x ∈ bx, H2[x.1]? = some x.2 := fun x hx => by
    have := h.bs x hx
    rw [ha.keep x.1 (by omega) (hne _ (by omega)), this.1]
  have hn2 : ∀ b, blkOf (.slice a2 (l.length + m.length) c2) = some b → o < b := fun b hb => (ha.new b hb).elim (h.nd b) fun h => by omega
  have hf := h.ext.push h.od hnc ha
  refine ⟨k1, k2, ⟨fun x hx => ⟨?_, (h.bs x hx).2⟩, ?_, ?_, ?_, ?_, h.ns, h.n0, h.nc, ?_⟩⟩
  · rw [List.getElem?_set_ne (by have := (h.bs x hx).2; omega)]
    exact k2 x hx
  · rw [List.length_append]; exact set_at k1
  · refine ⟨(ha.own h.osh.own fun b hb => hne b (by have := h.ns b hb; omega)).set fun e => ?_, h.osh.fr⟩
    have := h.ns _ e; omega
  · rw [List.length_append]
    exact ⟨ho.set fun e => by have := hn2 _ e; omega, fun b hb => by have := hn2 b hb; omega⟩
  · rw [List.length_append]; exact hn2
  · exact hf.set k1 (by omega) (by omega)
theorem DR.set {H0 H : AH} {v : Value} {l : List Int} {b : Nat} {k : Blk} (h : DR H0 H v l) (hb : blkOf v ≠ some b) : DR H0 (H.set b k) v l := ⟨h.own.set hb, h.fr⟩
theorem DA.set {H0 H : AH} {p q : Value} {sh dt : List Int} {b : Nat} {k : Blk} (h : DA H0 H p q sh dt) (h1 : blkOf p ≠ some b) (h2 : blkOf q ≠ some b) : DA H0 (H.set b k) p q sh dt := ⟨h.sh.set h1, h.dt.set h2, h.dj⟩
theorem DR.lt {H0 H : AH} {v : Value} {l : List Int} (h : DR H0 H v l) : ∀ b, blkOf v = some b → b < H.length := h.own.lt
inductive It where
  | box (o : Nat) (cs : List Value)
  | row (v : Value) (l : List Int)
  | cmp (x : Comp) (V : List CV)
def It.ok (H : AH) : It → Prop
  | .box o cs => H[o]? = some ⟨cs, .own⟩
  | .row v l => OwnRow H v l
  | .cmp x V => x.own H ∧ cvs H x.xs = V
def It.bs : It → Nat → Prop
  | .box o _, b => b = o
  | .row v _, b => blkOf v = some b
  | .cmp x _, b => x.bs b
theorem It.ok.same {H H' : AH} {x : It} (h : x.ok H) (hs : ∀ b, x.bs b → H'[b]? = H[b]?) : x.ok H' := by
  cases x with
  | box o cs => show H'[o]? = _; rw [hs o rfl]; exact h
  | row v l => exact OwnRow.same h hs
  | cmp x V => exact ⟨h.1.same hs, by rw [(Comp.rd.same h.1.rd hs).2]; exact h.2⟩
theorem OwnC.ownb {H : AH} {y : Value} (h : OwnC H y) : ∀ b, blkOf y = some b → ∃ cs, H[b]? = some (⟨cs, .own⟩ : Blk) := by
  intro b hb
  rcases h with ⟨n, rfl⟩ | ⟨n, rfl⟩ | ⟨e, _⟩ | ⟨b', o, cs, e, h2, _⟩
  · simp [blkOf] at hb
  · simp [blkOf] at hb
  · rw [e] at hb; simp [blkOf] at hb
  · rw [e] at hb; simp [blkOf] at hb; subst hb; exact ⟨cs, h2⟩
theorem It.ok.ownb {H : AH} {x : It} (h : x.ok H) : ∀ b, x.bs b → ∃ cs, H[b]? = some (⟨cs, .own⟩ : Blk) := by
  intro b hb
  cases x with
  | box o cs => cases hb; exact ⟨cs, h⟩
  | row v l =>
    rcases h with ⟨e, _⟩ | ⟨b', o, cs, e, h2, _⟩
    · rw [e] at hb; simp [It.bs, blkOf] at hb
    · rw [e] at hb; simp [It.bs, blkOf] at hb; subst hb; exact ⟨cs, h2⟩
  | cmp x V =>
    obtain ⟨h, _⟩ := h
    cases x with
    | cells ks xs =>
      obtain ⟨y, hy, e⟩ := hb
      exact (h.2.1 y hy).ownb b e
    | row v ks n xs =>
      rcases hb with hb | ⟨y, hy, e⟩
      · rcases (show OT H v ks n xs from h).row with ⟨h1, _⟩ | ⟨b', o, cs, h1, h2, h3⟩
        · rw [h1] at hb; simp [blkOf] at hb
        · rw [h1] at hb; simp [blkOf] at hb; subst hb; exact ⟨cs, h2⟩
      · obtain ⟨j, hj⟩ := List.mem_iff_getElem?.1 hy
        exact ((show OT H v ks n xs from h).own j y hj).ownb b e
theorem It.ok.lt {H : AH} {x : It} (h : x.ok H) : ∀ b, x.bs b → b < H.length := fun b hb => by
  obtain ⟨cs, h⟩ := h.ownb b hb
  exact (List.getElem?_eq_some_iff.1 h).1
/-- What a function holds: each by itself, none older than the call; a cursor may be there too. -/
structure LD (c : Option Nat) (H0 H : AH) (L : List It) : Prop where
  ok : ∀ (i : Nat) x, L[i]? = some x → x.ok H
  fr : ∀ (i : Nat) x, L[i]? = some x → ∀ b, x.bs b → H0.length ≤ b
  dj : ∀ (i j : Nat) x y, i ≠ j → L[i]? = some x → L[j]? = some y → ∀ b, x.bs b → ¬ y.bs b
  len : H0.length ≤ H.length
  keep : ∀ b, b < H0.length → c ≠ some b → H[b]? = H0[b]?
  cur : ∀ cb, c = some cb → Cur H cb
  nc : ∀ cb, c = some cb → ∀ (i : Nat) x, L[i]? = some x → ¬ x.bs cb
theorem LD.ext {H0 H : AH} {L : List It} (h : LD none H0 H L) : ∃ K, H = H0 ++ K := ext_of h.len fun b hb => h.keep b hb (by simp)
theorem LD.nil {H : AH} : LD none H H [] := ⟨fun i x h => by simp at h, fun i x h => by simp at h, fun i j x y _ h => by simp at h, Nat.le_refl _, fun _ _ _ => rfl, fun _ h => by simp at h, fun _ h => by simp at h⟩
/-- Something new comes. -/
theorem LD.add {c : Option Nat} {H0 H H' : AH} {L : List It} {x : It} (h : LD c H0 H L) (hl : H.length ≤ H'.length) (hk : ∀ b, b < H.length → c ≠ some b → H'[b]? = H[b]?) (hc : ∀ cb, c = some cb → Cur H' cb) (hx : x.ok H') (hb : ∀ b, x.bs b → H.length ≤ b) : LD c H0 H' (x :: L) := by
  have same : ∀ (i : Nat) y, L[i]? = some y → y.ok H' := fun i y hy => (h.ok i y hy).same fun b hb => hk b ((h.ok i y hy).lt b hb) fun e => h.nc b e i y hy hb
  refine ⟨?_, ?_, ?_, Nat.le_trans h.len hl, fun b hb hn => ?_, hc, fun cb e => ?_⟩
  · rintro (_ | i) y hy
    · cases hy; exact hx
    · exact same i y hy
  · rintro (_ | i) y hy b hb2
    · cases hy; exact Nat.le_trans h.len (hb b hb2)
    · exact h.fr i y hy b hb2
  · rintro (_ | i) (_ | j) y z hne hy hz b h1 h2
    · exact hne rfl
    · cases hy; have := hb b h1; have := (h.ok j z hz).lt b h2; omega
    · cases hz; have := hb b h2; have := (h.ok i y hy).lt b h1; omega
    · exact h.dj i j y z (by omega) hy hz b h1 h2
  · rw [hk b (Nat.lt_of_lt_of_le hb h.len) hn, h.keep b hb hn]
  · rintro (_ | i) y hy h2
    · cases hy; have := hb cb h2; have := (h.cur cb e).lt; omega
    · exact h.nc cb e i y hy h2
theorem LD.tail {c : Option Nat} {H0 H : AH} {L : List It} {x : It} (h : LD c H0 H (x :: L)) : LD c H0 H L :=
  ⟨fun i y hy => h.ok (i + 1) y hy, fun i y hy => h.fr (i + 1) y hy, fun i j y z hne hy hz => h.dj (i + 1) (j + 1) y z (by omega) hy hz, h.len, h.keep, h.cur, fun cb e i y hy => h.nc cb e (i + 1) y hy⟩
theorem LD.call {cb : Nat} {H0 H H' : AH} {L : List It} (h : LD (some cb) H0 H L) (hf : Frm cb H H') : LD (some cb) H0 H' L :=
  (h.add (x := .row (.slice none 0 0) []) hf.len (fun b hb hn => hf.keep b hb (by simpa using Ne.symm hn)) (fun g e => by cases e; exact hf.cur) OwnRow.nil fun b hb => by simp [It.bs, blkOf] at hb).tail
theorem LD.extd {c : Option Nat} {H0 H H' : AH} {L : List It} (h : LD c H0 H L) (hf : ∃ K, H' = H ++ K) : LD c H0 H' L := by
  obtain ⟨K, rfl⟩ := hf
  exact (h.add (x := .row (.slice none 0 0) []) (by simp) (fun b hb _ => List.getElem?_append_left hb) (fun g e => (h.cur g e).mono) OwnRow.nil fun b hb => by simp [It.bs, blkOf] at hb).tail
theorem LD.box {c : Option Nat} {H0 H : AH} {L : List It} (h : LD c H0 H L) (cs : List Value) : LD c H0 (H ++ [⟨cs, .own⟩]) (.box H.length cs :: L) :=
  h.add (by simp) (fun b hb _ => List.getElem?_append_left hb) (fun g e => (h.cur g e).mono) (by show (H ++ [⟨cs, .own⟩])[H.length]? = _; rw [gt0]; rfl) fun b hb => by cases hb; exact Nat.le_refl _
theorem LD.nrow {c : Option Nat} {H0 H H' : AH} {L : List It} {v : Value} {l : List Int} (h : LD c H0 H L) (hv : DR H H' v l) (hf : ∃ K, H' = H ++ K) : LD c H0 H' (.row v l :: L) := by
  obtain ⟨K, rfl⟩ := hf
  exact h.add (by simp) (fun b hb _ => List.getElem?_append_left hb) (fun g e => (h.cur g e).mono) hv.own hv.fr
theorem LD.lit {c : Option Nat} {H0 H : AH} {L : List It} {cs : List Value} {n : Nat} (h : LD c H0 H L) (l : List Int) (he : cs = ints l) (hn : n = l.length) : LD c H0 (H ++ [⟨cs, .own⟩]) (.row (.slice (some ⟨H.length, 0, none⟩) n 1) l :: L) :=
  h.nrow (DR.lit l (Nat.le_refl _) he hn) ⟨_, rfl⟩
theorem LD.nrow2 {c : Option Nat} {H0 H H' : AH} {L : List It} {v w : Value} {l m : List Int} (h : LD c H0 H L) (hv : DR H H' v l) (hw : DR H H' w m) (hd : Dj v w) (hf : ∃ K, H' = H ++ K) : LD c H0 H' (.row v l :: .row w m :: L) := by
  have h1 := h.nrow hv hf
  have h2 := h.nrow hw hf
  refine ⟨?_, ?_, ?_, h1.len, h1.keep, h1.cur, fun cb e => ?_⟩
  · rintro (_ | i) y hy
    · cases hy; exact hv.own
    · exact h2.ok i y hy
  · rintro (_ | i) y hy b hb
    · cases hy; exact h1.fr 0 _ rfl b hb
    · exact h2.fr i y hy b hb
  · rintro (_ | _ | i) (_ | _ | j) y z hne hy hz b e1 e2
    · exact hne rfl
    · cases hy; cases hz; exact hd b e1 e2
    · exact h1.dj 0 (j + 1) y z (by omega) hy hz b e1 e2
    · cases hy; cases hz; exact hd b e2 e1
    · exact hne rfl
    · exact h2.dj 0 (j + 1) y z (by omega) hy hz b e1 e2
    · exact h1.dj (i + 1) 0 y z (by omega) hy hz b e1 e2
    · exact h2.dj (i + 1) 0 y z (by omega) hy hz b e1 e2
    · exact h1.dj (i + 1) (j + 1) y z (by omega) hy hz b e1 e2
  · rintro (_ | i) y hy
    · cases hy; exact h1.nc cb e 0 _ rfl
    · exact h2.nc cb e i y hy
theorem LD.aown {c : Option Nat} {H0 H H' : AH} {L : List It} {p q v : Value} {sh dt : List Int} (h : LD c H0 H L) (ha : AOwn H H' v sh dt p q) (hf : ∃ K, H' = H ++ K) : LD c H0 H' (.row p sh :: .row q dt :: L) :=
  h.nrow2 ⟨ha.sh, ha.n1⟩ ⟨ha.dt, ha.n2⟩ ha.dj hf
theorem LD.rd {c : Option Nat} {H0 H : AH} {L : List It} {o : Nat} {cs : List Value} (h : LD c H0 H L) (i : Nat) (hi : L[i]? = some (.box o cs)) : rd H o = some cs ∧ wrt H o = some cs :=
  ⟨rd_own (h.ok i _ hi), wrt_own (h.ok i _ hi)⟩
theorem LD.own {c : Option Nat} {H0 H : AH} {L : List It} {v : Value} {l : List Int} (h : LD c H0 H L) (i : Nat) (hi : L[i]? = some (.row v l)) : OwnRow H v l := h.ok i _ hi
/-- One thing is turned. -/
theorem LD.upd {c : Option Nat} {H0 H H' : AH} {L : List It} {x x' : It} (h : LD c H0 H L) (i : Nat) (hi : L[i]? = some x) (hl : H.length ≤ H'.length) (hk : ∀ b, b < H.length → ¬ x.bs b → H'[b]? = H[b]?) (hx : x'.ok H') (hb : ∀ b, x'.bs b → x.bs b ∨ H.length ≤ b) : LD c H0 H' (L.set i x') := by
  have hil := (List.getElem?_eq_some_iff.1 hi).1
  have get : ∀ (j : Nat) y, (L.set i x')[j]? = some y → (j = i ∧ y = x') ∨ (j ≠ i ∧ L[j]? = some y) := fun j y hy => by
    rcases Nat.decEq i j with e | e
    · rw [List.getElem?_set_ne e] at hy; exact .inr ⟨Ne.symm e, hy⟩
    · subst e; rw [List.getElem?_set_self hil] at hy; cases hy; exact .inl ⟨rfl, rfl⟩
  refine ⟨fun j y hy => ?_, fun j y hy b hb2 => ?_, fun j k y z hne hy hz b e1 e2 => ?_, Nat.le_trans h.len hl, fun b hb2 hn => ?_, fun cb e => ?_, fun cb e j y hy h2 => ?_⟩
  · rcases get j y hy with ⟨rfl, rfl⟩ | ⟨hne, hy⟩
    · exact hx
    · exact (h.ok j y hy).same fun b hb2 => hk b ((h.ok j y hy).lt b hb2) (h.dj j i y x hne hy hi b hb2)
  · rcases get j y hy with ⟨rfl, rfl⟩ | ⟨hne, hy⟩
    · exact (hb b hb2).elim (h.fr j x hi b) fun h2 => Nat.le_trans h.len h2
    · exact h.fr j y hy b hb2
  · rcases get j y hy with ⟨rfl, rfl⟩ | ⟨hne1, hy'⟩
    · rcases get k z hz with ⟨rfl, rfl⟩ | ⟨hne2, hz⟩
      · exact hne rfl
      · exact (hb b e1).elim (fun e1 => h.dj j k x z hne hi hz b e1 e2) fun e1 => by have := (h.ok k z hz).lt b e2; omega
    · rcases get k z hz with ⟨rfl, rfl⟩ | ⟨hne2, hz⟩
      · exact (hb b e2).elim (fun e2 => h.dj j k y x hne hy' hi b e1 e2) fun e2 => by have := (h.ok j y hy').lt b e1; omega
      · exact h.dj j k y z hne hy' hz b e1 e2
  · rw [hk b (Nat.lt_of_lt_of_le hb2 h.len) fun e => by have := h.fr i x hi b e; omega, h.keep b hb2 hn]
  · have h2 := h.cur cb e
    refine h2.same (hk cb h2.lt (h.nc cb e i x hi)) fun b cs hb2 => ?_
    rw [hk b (List.getElem?_eq_some_iff.1 hb2).1 fun e => ?_]
    · exact hb2
    · obtain ⟨cs', h3⟩ := (h.ok i x hi).ownb b e
      rw [hb2] at h3; cases h3
  · rcases get j y hy with ⟨rfl, rfl⟩ | ⟨hne1, hy'⟩
    · exact (hb cb h2).elim (h.nc cb e j x hi) fun h3 => by have := (h.cur cb e).lt; omega
    · exact h.nc cb e j y hy' h2
theorem LD.cursor {H0 H H' : AH} {L : List It} {cb : Nat} (h : LD none H0 H L) (hf : ∃ K, H' = H ++ K) (hc : Cur H' cb) (hb : H.length ≤ cb) : LD (some cb) H0 H' L := by
  have h1 := h.extd hf
  exact ⟨h1.ok, h1.fr, h1.dj, h1.len, fun b hb _ => h1.keep b hb (by simp), fun g e => by cases e; exact hc, fun g e i x hx h2 => by cases e; have := (h.ok i x hx).lt _ h2; omega⟩
theorem LD.out {H0 H : AH} {L : List It} {cb : Nat} (h : LD (some cb) H0 H L) (hb : H0.length ≤ cb) : LD none H0 H L :=
  ⟨h.ok, h.fr, h.dj, h.len, fun b hb2 _ => h.keep b hb2 (by simp; omega), fun _ e => by simp at e, fun _ e => by simp at e⟩
theorem LD.set {c : Option Nat} {H0 H : AH} {L : List It} {o : Nat} {cs : List Value} (h : LD c H0 H L) (i : Nat) (hi : L[i]? = some (.box o cs)) (cs' : List Value) : LD c H0 (H.set o ⟨cs', .own⟩) (L.set i (.box o cs')) :=
  h.upd i hi (by simp) (fun b hb hn => List.getElem?_set_ne (fun e => hn e.symm)) (set_at (h.ok i _ hi)) fun b hb => .inl hb
theorem LD.push {c : Option Nat} {H0 H H' : AH} {L : List It} {v v' : Value} {l m : List Int} (h : LD c H0 H L) (i : Nat) (hi : L[i]? = some (.row v l)) (ho : OwnRow H' v' m) (ha : App H v H' v') : LD c H0 H' (L.set i (.row v' m)) :=
  h.upd i hi ha.len ha.keep ho ha.new
theorem LD.join {c : Option Nat} {H0 H H' : AH} {L L' : List It} (h : LD c H0 H L) (g : LD none H H' L') : LD c H0 H' (L' ++ L) := by
  have h1 := h.extd g.ext
  have get : ∀ (i : Nat) x, (L' ++ L)[i]? = some x → (i < L'.length ∧ L'[i]? = some x) ∨ (L'.length ≤ i ∧ L[i - L'.length]? = some x) := fun i x hx => by
    rcases Nat.lt_or_ge i L'.length with e | e
    · rw [List.getElem?_append_left e] at hx; exact .inl ⟨e, hx⟩
    · rw [List.getElem?_append_right e] at hx; exact .inr ⟨e, hx⟩
  refine ⟨fun i x hx => ?_, fun i x hx b hb => ?_, fun i j x y hne hx hy b e1 e2 => ?_, h1.len, h1.keep, h1.cur, fun cb e i x hx hb => ?_⟩
  · rcases get i x hx with ⟨_, hx⟩ | ⟨_, hx⟩
    · exact g.ok _ x hx
    · exact h1.ok _ x hx
  · rcases get i x hx with ⟨_, hx⟩ | ⟨_, hx⟩
    · exact Nat.le_trans h.len (g.fr _ x hx b hb)
    · exact h1.fr _ x hx b hb
  · rcases get i x hx with ⟨a1, hx⟩ | ⟨a1, hx⟩ <;> rcases get j y hy with ⟨a2, hy⟩ | ⟨a2, hy⟩
    · exact g.dj i j x y hne hx hy b e1 e2
    · have := g.fr _ x hx b e1; have := (h.ok _ y hy).lt b e2; omega
    · have := g.fr _ y hy b e2; have := (h.ok _ x hx).lt b e1; omega
    · exact h1.dj _ _ x y (by omega) hx hy b e1 e2
  · rcases get i x hx with ⟨_, hx⟩ | ⟨_, hx⟩
    · have := g.fr _ x hx cb hb; have := (h.cur cb e).lt; omega
    · exact h1.nc cb e _ x hx hb
def pickL (L : List It) (is : List Nat) : List It := is.map fun i => (L[i]?).getD (.row (.slice none 0 0) [])
theorem LD.pick {c : Option Nat} {H0 H : AH} {L : List It} (h : LD c H0 H L) (is : List Nat) (hn : is.Nodup) : LD c H0 H (pickL L is) := by
  have get : ∀ (j : Nat) x, (pickL L is)[j]? = some x → ∃ i, is[j]? = some i ∧ (L[i]? = some x ∨ x = .row (.slice none 0 0) []) := fun j x hx => by
    simp only [pickL, List.getElem?_map, Option.map_eq_some_iff] at hx
    obtain ⟨i, hi, rfl⟩ := hx
    refine ⟨i, hi, ?_⟩
    cases hL : L[i]? with
    | none => exact .inr rfl
    | some y => exact .inl rfl
  have nob : ∀ b, ¬ (It.row (.slice none 0 0) []).bs b := fun b hb => by simp [It.bs, blkOf] at hb
  refine ⟨fun j x hx => ?_, fun j x hx b hb => ?_, fun j k x y hne hx hy b e1 e2 => ?_, h.len, h.keep, h.cur, fun cb e j x hx hb => ?_⟩
  · obtain ⟨i, _, h1 | rfl⟩ := get j x hx
    · exact h.ok i x h1
    · exact OwnRow.nil
  · obtain ⟨i, _, h1 | rfl⟩ := get j x hx
    · exact h.fr i x h1 b hb
    · exact (nob b hb).elim
  · obtain ⟨i, hi, h1 | rfl⟩ := get j x hx
    · obtain ⟨i', hi', h1' | rfl⟩ := get k y hy
      · refine h.dj i i' x y ?_ h1 h1' b e1 e2
        rintro rfl
        obtain ⟨l1, l2⟩ := List.getElem?_eq_some_iff.1 hi
        obtain ⟨l3, l4⟩ := List.getElem?_eq_some_iff.1 hi'
        have hp := List.pairwise_iff_getElem.1 hn
        rcases Nat.lt_or_gt_of_ne hne with e | e
        · exact hp _ _ l1 l3 e (l2.trans l4.symm)
        · exact hp _ _ l3 l1 e (l4.trans l2.symm)
      · exact nob b e2
    · exact nob b e1
  · obtain ⟨i, _, h1 | rfl⟩ := get j x hx
    · exact h.nc cb e i x h1 hb
    · exact nob cb hb
theorem LD.cells {c : Option Nat} {H0 H : AH} {L : List It} {v : Value} {l : List Int} (h : LD c H0 H L) (i : Nat) (hi : L[i]? = some (.row v l)) (hk : 0 < l.length) :
    ∃ b o cs, v = .slice (some ⟨b, o, none⟩) l.length 1 ∧ Go.Proofs.Ytdagncfnkenbfaa.AM.rd H b = some cs ∧ ∀ (i : Nat) x, l[i]? = some x → cs[o + i]? = some (.int .i64 x) := by
  obtain ⟨b, o, cs, rfl, h1, h2, h3⟩ := (h.own i hi).blk hk
  exact ⟨b, o, cs, rfl, rd_own h1, h3⟩

/-- The bytes of a draw. -/
def BRv (H : AH) (v : Value) : Prop := ∃ a n c, v = .slice a n c ∧ n ≤ 1048576 ∧ BRow H a n c
theorem BRow.mono {H L : AH} {a : Option Addr} {n c : Nat} (h : BRow H a n c) : BRow (H ++ L) a n c := fun hn => by
  obtain ⟨b, o, cs, h1, h2, h3, h4⟩ := h hn
  exact ⟨b, o, cs, h1, h2, gtl h3, h4⟩
theorem BRv.ext {H H' : AH} {v : Value} (h : BRv H v) (he : ∃ K, H' = H ++ K) : BRv H' v := by
  obtain ⟨K, rfl⟩ := he
  obtain ⟨a, n, c, h1, h2, h3⟩ := h
  exact ⟨a, n, c, h1, h2, h3.mono⟩
/-- An array that may be read. -/
structure AR (H : AH) (p q : Value) (sh dt : List Int) : Prop where
  os : IntRow H p sh
  od : IntRow H q dt
  l1 : sh.length ≤ 1048576
  l2 : dt.length ≤ 1048576
theorem AR.ext {H H' : AH} {p q : Value} {sh dt : List Int} (h : AR H p q sh dt) (he : ∃ K, H' = H ++ K) : AR H' p q sh dt := ⟨h.os.ext he, h.od.ext he, h.l1, h.l2⟩
theorem AR.mono {H L : AH} {p q : Value} {sh dt : List Int} (h : AR H p q sh dt) : AR (H ++ L) p q sh dt := h.ext ⟨_, rfl⟩
theorem LD.of {c : Option Nat} {H0 H : AH} {L L' : List It} (h : LD c H0 H L) (e : L = L') : LD c H0 H L' := by rw [← e]; exact h

theorem big_eq {a : Option Addr} {n c : Nat} {H : AH} {Φ : Value → AH → Prop} : CallsA Try.prog 7 #[.slice a n c] H Φ = Φ (.bool (decide (1048576 < (n : Int)))) H := by
  have : CallsA Try.prog 7 #[.slice a n c] H fun r H' => r = .bool (decide (1048576 < (n : Int))) ∧ H' = H := by
    refine w7 ?_
    unfold k7
    simp -implicitDefEqProofs [kk0, kk1, kk2, kk3, rW_block, ↓two_true, ↓two_false, rW_cond, rO_guard, oS_some, oM_some, mkv, aggAt, Nat.reduceLeDiff, Nat.reduceSub, Nat.reduceMul, cond_true, cond_false, Option.bind_some, List.length_append, List.length_cons, List.length_nil, List.append_assoc, List.cons_append, List.nil_append, List.set_cons_zero, List.set_cons_succ, List.size_toArray, List.all_cons, List.all_nil, List.drop_zero, List.drop_succ_cons, List.take_succ_cons, List.take_zero, List.mem_cons, Prod.mk.injEq, List.not_mem_nil, implies_true, List.getElem?_toArray, List.getElem?_cons_zero, List.getElem?_cons_succ, List.getElem?_nil, Option.getD_some, Option.getD_none, Nat.reduceEqDiff, reduceIte, Nat.reduceAdd, List.map_toArray, List.map_cons, List.map_nil, Bool.false_eq_true, Nat.reduceBEq, Option.map_some, Option.map_none, reduceCtorEq, ln22]
  exact this.eq0

set_option maxHeartbeats 4000000 in
theorem l1New_ok {H : AH} {v : Value} (hv : BRv H v) : CallsA Try.prog 32 #[v] H fun r H' => ∃ cb, r = .pointer (some ⟨cb, 0, none⟩) ∧ Cur H' cb ∧ H.length ≤ cb ∧ ∃ K, H' = H ++ K := by
  obtain ⟨a, n, c, rfl, hn, hr⟩ := hv
  refine w32 ?_
  unfold k32
  simp -implicitDefEqProofs only [kz, kk0, kk1, kk2, kk3, ↓two_true, ↓two_false, oS_some, oM_some, mkv, aggAt, Nat.reduceLeDiff, Nat.reduceSub, Nat.reduceMul, implies_true, Nat.reduceEqDiff, reduceIte, Nat.reduceAdd, Nat.reduceBEq, reduceCtorEq, bd95, cv5_3, ix22, ld5, ln22]
  refine rW_loop (σ := Nat) (fun i tm H' => tm 0 = .slice a n c ∧ (∃ h : Int, tm 3 = .int .i64 h) ∧ tm 4 = .int .i64 i ∧ H' = H ∧ i ≤ n) (fun i => n - i) 0 ?_ ?_
  · exact ⟨rfl, ⟨_, rfl⟩, rfl, rfl, Nat.zero_le _⟩
  · rintro i tm H' ⟨h0, ⟨h, h3⟩, h4, rfl, hi⟩
    simp -implicitDefEqProofs only [kz, kk0, kk1, kk2, kk3, ↓two_true, ↓two_false, oS_some, oM_some, mkv, aggAt, Nat.reduceLeDiff, Nat.reduceSub, Nat.reduceMul, implies_true, Nat.reduceEqDiff, reduceIte, Nat.reduceAdd, Nat.reduceBEq, reduceCtorEq, bd95, cv5_3, ix22, ld5, ln22, h0, h3, h4]
    have fin : ∃ cb, Value.pointer (some ⟨H'.length, 0, none⟩) = Value.pointer (some ⟨cb, 0, none⟩) ∧ Cur (H' ++ [⟨[.slice a n c, .int .i64 0, .int .i64 h], .own⟩]) cb ∧ H'.length ≤ cb ∧ ∃ K, H' ++ [⟨[.slice a n c, .int .i64 0, .int .i64 h], .own⟩] = H' ++ K :=
      ⟨_, rfl, ⟨a, n, c, 0, h, by rw [gt0]; rfl, Nat.zero_le _, hn, hr.mono⟩, Nat.le_refl _, _, rfl⟩
    refine two_intro (fun hc => two_intro (fun hc2 => ?_) (fun hc2 => fin)) (fun hc => fin)
    have hc' : i < n := by simpa using hc
    obtain ⟨b, o, cs, rfl, rfl, hb, hcell⟩ := hr (by omega)
    obtain ⟨v, hv, v0, v1⟩ := hcell i hc'
    have hrb : rd H' b = some cs := by unfold rd; rw [hb]; rfl
    simp -implicitDefEqProofs only [kz, kk0, kk1, kk2, kk3, ↓two_true, ↓two_false, oS_some, oM_some, mkv, aggAt, Nat.reduceLeDiff, Nat.reduceSub, Nat.reduceMul, implies_true, Nat.reduceEqDiff, reduceIte, Nat.reduceAdd, Nat.reduceBEq, reduceCtorEq, bd95, cv5_3, ix22, ld5, ln22, h0, h3, h4, Int.toNat_natCast, Nat.mul_one, hrb, hv, IntWalk.i64_in (↑i + 1) (by omega)]
    exact ⟨⟨by omega, by omega⟩, i + 1, by omega, ⟨_, rfl⟩, by simp, hc'⟩
def Ans1 (H H' : AH) (r : Value) (R : (List Int × List Int) × Int) : Prop := ∃ p q, r = .tuple #[.agg #[p, q], .int .i64 R.2] ∧ LD none H H' [.row p R.1.1, .row q R.1.2]
theorem ARes.ld {H H' : AH} {r : Value} {R : (List Int × List Int) × Int} (h : ARes H H' r R) : Ans1 H H' r R := by
  obtain ⟨⟨a, c, b, d, rfl, h⟩, he⟩ := h
  exact ⟨_, _, rfl, LD.nil.aown h he⟩
/-- The cells of a row that may be read. -/
theorem IntRow.cells {H : AH} {a : Option Addr} {n c : Nat} {l : List Int} (h : IntRow H (.slice a n c) l) {i : Nat} (hi : i < l.length) : n = l.length ∧ ∃ b o cs, a = some ⟨b, o, none⟩ ∧ c = 1 ∧ rd H b = some cs ∧ cs[o + i]? = some (.int .i64 l[i]) := by
  obtain ⟨a', c', e, g⟩ := h.op
  injection e with e1 e2 e3
  subst e1; subst e2; subst e3
  obtain ⟨b, o, cs, g1, g2, g3, g4, g5⟩ := g (by omega)
  exact ⟨rfl, b, o, cs, g1, g2, g3, g5 i hi⟩
/-- A table whose cells lie in what is never turned; its own block is the function's. -/
structure TabOk (B : Nat → Prop) (H : AH) (v : Value) (ks : List CK) (n : Nat) (xs : List Value) : Prop where
  len : xs.length = n * ks.length
  row : (v = .slice none 0 0 ∧ n = 0) ∨ ∃ b o cs, v = .slice (some ⟨b, o, none⟩) n ks.length ∧ H[b]? = some ⟨cs, .own⟩ ∧ o + n * ks.length ≤ cs.length ∧ ∀ (j : Nat) y, xs[j]? = some y → cs[o + j]? = some y
  cell : ∀ (i c : Nat) k y, i < n → ks[c]? = some k → xs[i * ks.length + c]? = some y → KOk H k y
  base : ∀ y ∈ xs, ∀ b, blkOf y = some b → B b
theorem TabOk.frow {B : Nat → Prop} {H : AH} {v : Value} {ks : List CK} {n : Nat} {xs : List Value} (h : TabOk B H v ks n xs) : FRow H v ks n xs := by
  refine ⟨h.len, ?_, h.cell⟩
  rcases h.row with h1 | ⟨b, o, cs, h1, h2, h3⟩
  · exact .inl h1
  · exact .inr ⟨b, o, cs, h1, rd_own h2, h3⟩
theorem TabOk.same {B B' : Nat → Prop} {H H' : AH} {v : Value} {ks : List CK} {n : Nat} {xs : List Value} (h : TabOk B H v ks n xs) (hv : ∀ b, blkOf v = some b → H'[b]? = H[b]?) (hB : ∀ b, B b → H'[b]? = H[b]?) (hBB : ∀ b, B b → B' b) : TabOk B' H' v ks n xs := by
  refine ⟨h.len, ?_, fun i c k y hi hk hy => (h.cell i c k y hi hk hy).same fun b hb => get_rd (hB b (h.base y (List.mem_of_getElem? hy) b hb)), fun y hy b hb => hBB b (h.base y hy b hb)⟩
  rcases h.row with h1 | ⟨b, o, cs, h1, h2, h3⟩
  · exact .inl h1
  · exact .inr ⟨b, o, cs, h1, by rw [hv b (by rw [h1]; rfl)]; exact h2, h3⟩
theorem TabOk.vals {B : Nat → Prop} {H H' : AH} {v : Value} {ks : List CK} {n : Nat} {xs : List Value} (h : TabOk B H v ks n xs) (hB : ∀ b, B b → H'[b]? = H[b]?) : cvs H' xs = cvs H xs :=
  FRow.cvs_same fun b ⟨y, hy, hb⟩ => get_rd (hB b (h.base y hy b hb))
/-- A table that is only read. -/
structure FTab (B : Nat → Prop) (H : AH) (v : Value) (ks : List CK) (n : Nat) (xs : List Value) : Prop where
  fr : FRow H v ks n xs
  base : ∀ b, (blkOf v = some b ∨ ∃ y ∈ xs, blkOf y = some b) → B b
inductive Ix where
  | own (x : It)
  | tab (v : Value) (ks : List CK) (n : Nat) (xs : List Value) (V : List CV)
  | fro (v : Value) (l : List Int)
  | ftab (v : Value) (ks : List CK) (n : Nat) (xs : List Value) (V : List CV)
def Ix.ok (B : Nat → Prop) (H : AH) : Ix → Prop
  | .own x => x.ok H
  | .tab v ks n xs V => TabOk B H v ks n xs ∧ cvs H xs = V
  | .fro v l => IntRow H v l ∧ ∀ b, blkOf v = some b → B b
  | .ftab v ks n xs V => FTab B H v ks n xs ∧ cvs H xs = V
def Ix.bs : Ix → Nat → Prop
  | .own x, b => x.bs b
  | .tab v _ _ _ _, b => blkOf v = some b
  | .fro _ _, _ => False
  | .ftab _ _ _ _ _, _ => False
theorem Ix.ok.same {B B' : Nat → Prop} {H H' : AH} {x : Ix} (h : x.ok B H) (hs : ∀ b, x.bs b → H'[b]? = H[b]?) (hB : ∀ b, B b → H'[b]? = H[b]?) (hBB : ∀ b, B b → B' b) : x.ok B' H' := by
  cases x with
  | own x => exact It.ok.same h hs
  | tab v ks n xs V => exact ⟨h.1.same hs hB hBB, (h.1.vals hB).trans h.2⟩
  | fro v l => exact ⟨h.1.same fun b o n c e => get_rd (hB b (h.2 b (by rw [e]; rfl))), fun b hb => hBB b (h.2 b hb)⟩
  | ftab v ks n xs V => exact ⟨⟨h.1.fr.same fun b hb => get_rd (hB b (h.1.base b hb)), fun b hb => hBB b (h.1.base b hb)⟩, (FRow.cvs_same fun b hb => get_rd (hB b (h.1.base b (.inr hb)))).trans h.2⟩
theorem Ix.ok.ownb {B : Nat → Prop} {H : AH} {x : Ix} (h : x.ok B H) : ∀ b, x.bs b → ∃ cs, H[b]? = some (⟨cs, .own⟩ : Blk) := by
  intro b hb
  cases x with
  | own x => exact It.ok.ownb h b hb
  | tab v ks n xs V =>
    rcases h.1.row with ⟨e, _⟩ | ⟨b', o, cs, e, h2, _⟩
    · rw [e] at hb; simp [Ix.bs, blkOf] at hb
    · rw [e] at hb; simp [Ix.bs, blkOf] at hb; subst hb; exact ⟨cs, h2⟩
  | fro v l => exact hb.elim
  | ftab v ks n xs V => exact hb.elim
theorem Ix.ok.lt {B : Nat → Prop} {H : AH} {x : Ix} (h : x.ok B H) : ∀ b, x.bs b → b < H.length := fun b hb => by
  obtain ⟨cs, h⟩ := h.ownb b hb
  exact (List.getElem?_eq_some_iff.1 h).1
structure LB (B : Nat → Prop) (c : Option Nat) (H0 H : AH) (L : List Ix) : Prop where
  ok : ∀ (i : Nat) x, L[i]? = some x → x.ok B H
  fr : ∀ (i : Nat) x, L[i]? = some x → ∀ b, x.bs b → ¬ B b ∧ H0.length ≤ b
  dj : ∀ (i j : Nat) x y, i ≠ j → L[i]? = some x → L[j]? = some y → ∀ b, x.bs b → ¬ y.bs b
  len : H0.length ≤ H.length
  keep : ∀ b, b < H0.length → c ≠ some b → H[b]? = H0[b]?
  b0 : ∀ b, b < H0.length → c ≠ some b → B b
  bl : ∀ b, B b → b < H.length ∧ c ≠ some b
  cur : ∀ cb, c = some cb → Cur H cb
  nc : ∀ cb, c = some cb → ∀ (i : Nat) x, L[i]? = some x → ¬ x.bs cb
/-- What a function holds: each by itself, none older than the call; and what it only reads. -/
def LX (c : Option Nat) (H0 H : AH) (L : List Ix) : Prop := ∃ B, LB B c H0 H L
theorem LX.ext {H0 H : AH} {L : List Ix} (h : LX none H0 H L) : ∃ K, H = H0 ++ K := by
  obtain ⟨B, h⟩ := h
  exact ext_of h.len fun b hb => h.keep b hb (by simp)
theorem LX.len {c : Option Nat} {H0 H : AH} {L : List Ix} (h : LX c H0 H L) : H0.length ≤ H.length := by
  obtain ⟨B, h⟩ := h; exact h.len
theorem LX.nil {H : AH} : LX none H H [] :=
  ⟨fun b => b < H.length, fun i x h => by simp at h, fun i x h => by simp at h, fun i j x y _ h => by simp at h, Nat.le_refl _, fun _ _ _ => rfl, fun b hb _ => hb, fun b hb => ⟨hb, by simp⟩, fun _ h => by simp at h, fun _ h => by simp at h⟩
/-- The heap turns, but for what is held or only read. -/
theorem LB.add {B : Nat → Prop} {c : Option Nat} {H0 H H' : AH} {L : List Ix} {x : Ix} (h : LB B c H0 H L) (hl : H.length ≤ H'.length) (hk : ∀ b, b < H.length → c ≠ some b → H'[b]? = H[b]?) (hc : ∀ cb, c = some cb → Cur H' cb) (hx : x.ok B H') (hb : ∀ b, x.bs b → H.length ≤ b) : LB B c H0 H' (x :: L) := by
  have same : ∀ (i : Nat) y, L[i]? = some y → y.ok B H' := fun i y hy => (h.ok i y hy).same (fun b hb => hk b ((h.ok i y hy).lt b hb) fun e => h.nc b e i y hy hb) (fun b hb => hk b (h.bl b hb).1 (h.bl b hb).2) fun b hb => hb
  refine ⟨?_, ?_, ?_, Nat.le_trans h.len hl, fun b hb hn => ?_, h.b0, fun b hb => ⟨Nat.lt_of_lt_of_le (h.bl b hb).1 hl, (h.bl b hb).2⟩, hc, fun cb e => ?_⟩
  · rintro (_ | i) y hy
    · cases hy; exact hx
    · exact same i y hy
  · rintro (_ | i) y hy b hb2
    · cases hy
      exact ⟨fun hB => by have := (h.bl b hB).1; have := hb b hb2; omega, Nat.le_trans h.len (hb b hb2)⟩
    · exact h.fr i y hy b hb2
  · rintro (_ | i) (_ | j) y z hne hy hz b h1 h2
    · exact hne rfl
    · cases hy; have := hb b h1; have := (h.ok j z hz).lt b h2; omega
    · cases hz; have := hb b h2; have := (h.ok i y hy).lt b h1; omega
    · exact h.dj i j y z (by omega) hy hz b h1 h2
  · rw [hk b (Nat.lt_of_lt_of_le hb h.len) hn, h.keep b hb hn]
  · rintro (_ | i) y hy h2
    · cases hy; have := hb cb h2; have := (h.cur cb e).lt; omega
    · exact h.nc cb e i y hy h2
theorem LB.tail {B : Nat → Prop} {c : Option Nat} {H0 H : AH} {L : List Ix} {x : Ix} (h : LB B c H0 H (x :: L)) : LB B c H0 H L :=
  ⟨fun i y hy => h.ok (i + 1) y hy, fun i y hy => h.fr (i + 1) y hy, fun i j y z hne hy hz => h.dj (i + 1) (j + 1) y z (by omega) hy hz, h.len, h.keep, h.b0, h.bl, h.cur, fun cb e i y hy => h.nc cb e (i + 1) y hy⟩
theorem LX.tail {c : Option Nat} {H0 H : AH} {L : List Ix} {x : Ix} (h : LX c H0 H (x :: L)) : LX c H0 H L := by
  obtain ⟨B, h⟩ := h; exact ⟨B, h.tail⟩
theorem LB.grow {B : Nat → Prop} {c : Option Nat} {H0 H H' : AH} {L : List Ix} (h : LB B c H0 H L) (hl : H.length ≤ H'.length) (hk : ∀ b, b < H.length → c ≠ some b → H'[b]? = H[b]?) (hc : ∀ cb, c = some cb → Cur H' cb) : LB B c H0 H' L :=
  (h.add (x := .own (.row (.slice none 0 0) [])) hl hk hc OwnRow.nil fun b hb => by simp [Ix.bs, It.bs, blkOf] at hb).tail
theorem LX.call {cb : Nat} {H0 H H' : AH} {L : List Ix} (h : LX (some cb) H0 H L) (hf : Frm cb H H') : LX (some cb) H0 H' L := by
  obtain ⟨B, h⟩ := h
  exact ⟨B, h.grow hf.len (fun b hb hn => hf.keep b hb (by simpa using Ne.symm hn)) (fun g e => by cases e; exact hf.cur)⟩
theorem LX.extd {c : Option Nat} {H0 H H' : AH} {L : List Ix} (h : LX c H0 H L) (hf : ∃ K, H' = H ++ K) : LX c H0 H' L := by
  obtain ⟨B, h⟩ := h
  obtain ⟨K, rfl⟩ := hf
  exact ⟨B, h.grow (by simp) (fun b hb _ => List.getElem?_append_left hb) (fun g e => (h.cur g e).mono)⟩
/-- One thing is turned. -/
theorem LB.upd {B : Nat → Prop} {c : Option Nat} {H0 H H' : AH} {L : List Ix} {x x' : Ix} (h : LB B c H0 H L) (i : Nat) (hi : L[i]? = some x) (hl : H.length ≤ H'.length) (hk : ∀ b, b < H.length → ¬ x.bs b → H'[b]? = H[b]?) (hx : x'.ok B H') (hb : ∀ b, x'.bs b → x.bs b ∨ H.length ≤ b) : LB B c H0 H' (L.set i x') := by
  have hil := (List.getElem?_eq_some_iff.1 hi).1
  have get : ∀ (j : Nat) y, (L.set i x')[j]? = some y → (j = i ∧ y = x') ∨ (j ≠ i ∧ L[j]? = some y) := fun j y hy => by
    rcases Nat.decEq i j with e | e
    · rw [List.getElem?_set_ne e] at hy; exact .inr ⟨Ne.symm e, hy⟩
    · subst e; rw [List.getElem?_set_self hil] at hy; cases hy; exact .inl ⟨rfl, rfl⟩
  have hB : ∀ b, B b → H'[b]? = H[b]? := fun b hb => hk b (h.bl b hb).1 fun e => (h.fr i x hi b e).1 hb
  refine ⟨fun j y hy => ?_, fun j y hy b hb2 => ?_, fun j k y z hne hy hz b e1 e2 => ?_, Nat.le_trans h.len hl, fun b hb2 hn => ?_, h.b0, fun b hb => ⟨Nat.lt_of_lt_of_le (h.bl b hb).1 hl, (h.bl b hb).2⟩, fun cb e => ?_, fun cb e j y hy h2 => ?_⟩
  · rcases get j y hy with ⟨rfl, rfl⟩ | ⟨hne, hy⟩
    · exact hx
    · exact (h.ok j y hy).same (fun b hb2 => hk b ((h.ok j y hy).lt b hb2) (h.dj j i y x hne hy hi b hb2)) hB fun b hb => hb
  · rcases get j y hy with ⟨rfl, rfl⟩ | ⟨hne, hy⟩
    · exact (hb b hb2).elim (h.fr j x hi b) fun h2 => ⟨fun hB2 => by have := (h.bl b hB2).1; omega, Nat.le_trans h.len h2⟩
    · exact h.fr j y hy b hb2
  · rcases get j y hy with ⟨rfl, rfl⟩ | ⟨hne1, hy'⟩
    · rcases get k z hz with ⟨rfl, rfl⟩ | ⟨hne2, hz⟩
      · exact hne rfl
      · exact (hb b e1).elim (fun e1 => h.dj j k x z hne hi hz b e1 e2) fun e1 => by have := (h.ok k z hz).lt b e2; omega
    · rcases get k z hz with ⟨rfl, rfl⟩ | ⟨hne2, hz⟩
      · exact (hb b e2).elim (fun e2 => h.dj j k y x hne hy' hi b e1 e2) fun e2 => by have := (h.ok j y hy').lt b e1; omega
      · exact h.dj j k y z hne hy' hz b e1 e2
  · rw [hk b (Nat.lt_of_lt_of_le hb2 h.len) fun e => by have := (h.fr i x hi b e).2; omega, h.keep b hb2 hn]
  · have h2 := h.cur cb e
    refine h2.same (hk cb h2.lt (h.nc cb e i x hi)) fun b cs hb2 => ?_
    rw [hk b (List.getElem?_eq_some_iff.1 hb2).1 fun e => ?_]
    · exact hb2
    · obtain ⟨cs', h3⟩ := (h.ok i x hi).ownb b e
      rw [hb2] at h3; cases h3
  · rcases get j y hy with ⟨rfl, rfl⟩ | ⟨hne1, hy'⟩
    · exact (hb cb h2).elim (h.nc cb e j x hi) fun h3 => by have := (h.cur cb e).lt; omega
    · exact h.nc cb e j y hy' h2
theorem LX.rd {c : Option Nat} {H0 H : AH} {L : List Ix} {o : Nat} {cs : List Value} (h : LX c H0 H L) (i : Nat) (hi : L[i]? = some (.own (.box o cs))) : rd H o = some cs ∧ wrt H o = some cs := by
  obtain ⟨B, h⟩ := h
  exact ⟨rd_own (h.ok i _ hi), wrt_own (h.ok i _ hi)⟩
theorem LX.own {c : Option Nat} {H0 H : AH} {L : List Ix} {v : Value} {l : List Int} (h : LX c H0 H L) (i : Nat) (hi : L[i]? = some (.own (.row v l))) : OwnRow H v l := by
  obtain ⟨B, h⟩ := h; exact h.ok i _ hi
theorem LX.int {c : Option Nat} {H0 H : AH} {L : List Ix} {v : Value} {l : List Int} (h : LX c H0 H L) (i : Nat) (hi : L[i]? = some (.own (.row v l))) : IntRow H v l := (h.own i hi).int
theorem LX.ft {c : Option Nat} {H0 H : AH} {L : List Ix} {v : Value} {ks : List CK} {n : Nat} {xs : List Value} {V : List CV} (h : LX c H0 H L) (i : Nat) (hi : L[i]? = some (.ftab v ks n xs V)) : FRow H v ks n xs ∧ cvs H xs = V := by
  obtain ⟨B, h⟩ := h; exact ⟨(h.ok i _ hi).1.fr, (h.ok i _ hi).2⟩
theorem LX.tb {c : Option Nat} {H0 H : AH} {L : List Ix} {v : Value} {ks : List CK} {n : Nat} {xs : List Value} {V : List CV} (h : LX c H0 H L) (i : Nat) (hi : L[i]? = some (.tab v ks n xs V)) : FRow H v ks n xs ∧ cvs H xs = V := by
  obtain ⟨B, h⟩ := h; exact ⟨(h.ok i _ hi).1.frow, (h.ok i _ hi).2⟩
theorem LX.cm {c : Option Nat} {H0 H : AH} {L : List Ix} {v : Value} {ks : List CK} {n : Nat} {xs : List Value} {V : List CV} (h : LX c H0 H L) (i : Nat) (hi : L[i]? = some (.own (.cmp (.row v ks n xs) V))) : FRow H v ks n xs ∧ cvs H xs = V := by
  obtain ⟨B, h⟩ := h
  obtain ⟨h1, h2⟩ := h.ok i _ hi
  exact ⟨OT.frow h1, h2⟩
theorem LX.cur {H0 H : AH} {L : List Ix} {cb : Nat} (h : LX (some cb) H0 H L) : Cur H cb := by
  obtain ⟨B, h⟩ := h; exact h.cur cb rfl
theorem LX.nc {H0 H : AH} {L : List Ix} {cb : Nat} {v : Value} {l : List Int} (h : LX (some cb) H0 H L) (i : Nat) (hi : L[i]? = some (.own (.row v l))) : blkOf v ≠ some cb := by
  obtain ⟨B, h⟩ := h
  exact h.nc cb rfl i _ hi
theorem LX.box {c : Option Nat} {H0 H : AH} {L : List Ix} (h : LX c H0 H L) (cs : List Value) : LX c H0 (H ++ [⟨cs, .own⟩]) (.own (.box H.length cs) :: L) := by
  obtain ⟨B, h⟩ := h
  exact ⟨B, h.add (by simp) (fun b hb _ => List.getElem?_append_left hb) (fun g e => (h.cur g e).mono) (by show (H ++ [⟨cs, .own⟩])[H.length]? = _; rw [gt0]; rfl) fun b hb => by cases hb; exact Nat.le_refl _⟩
theorem LX.nrow {c : Option Nat} {H0 H H' : AH} {L : List Ix} {v : Value} {l : List Int} (h : LX c H0 H L) (hv : DR H H' v l) (hf : ∃ K, H' = H ++ K) : LX c H0 H' (.own (.row v l) :: L) := by
  obtain ⟨B, h⟩ := h
  obtain ⟨K, rfl⟩ := hf
  exact ⟨B, h.add (by simp) (fun b hb _ => List.getElem?_append_left hb) (fun g e => (h.cur g e).mono) hv.own hv.fr⟩
theorem LX.nil0 {c : Option Nat} {H0 H : AH} {L : List Ix} (h : LX c H0 H L) : LX c H0 H (.own (.row (.slice none 0 0) []) :: L) :=
  h.nrow ⟨OwnRow.nil, fun b hb => by simp [blkOf] at hb⟩ ext_refl
theorem LX.ntab {c : Option Nat} {H0 H : AH} {L : List Ix} (h : LX c H0 H L) (ks : List CK) : LX c H0 H (.tab (.slice none 0 0) ks 0 [] [] :: L) := by
  obtain ⟨B, h⟩ := h
  exact ⟨B, h.add (Nat.le_refl _) (fun b hb _ => rfl) h.cur ⟨⟨by simp, .inl ⟨rfl, rfl⟩, fun i c k y hi => by omega, fun y hy => by simp at hy⟩, rfl⟩ fun b hb => by simp [Ix.bs, blkOf] at hb⟩
theorem LX.set {c : Option Nat} {H0 H : AH} {L : List Ix} {o : Nat} {cs : List Value} (h : LX c H0 H L) (i : Nat) (hi : L[i]? = some (.own (.box o cs))) (cs' : List Value) : LX c H0 (H.set o ⟨cs', .own⟩) (L.set i (.own (.box o cs'))) := by
  obtain ⟨B, h⟩ := h
  exact ⟨B, h.upd i hi (by simp) (fun b hb hn => List.getElem?_set_ne (fun e => hn e.symm)) (set_at (h.ok i _ hi)) fun b hb => .inl hb⟩
theorem LX.push {c : Option Nat} {H0 H H' : AH} {L : List Ix} {v v' : Value} {l m : List Int} (h : LX c H0 H L) (i : Nat) (hi : L[i]? = some (.own (.row v l))) (ho : OwnRow H' v' m) (ha : App H v H' v') : LX c H0 H' (L.set i (.own (.row v' m))) := by
  obtain ⟨B, h⟩ := h
  exact ⟨B, h.upd i hi ha.len ha.keep ho ha.new⟩
/-- What was held is only read from here on. -/
theorem LB.fz {B B' : Nat → Prop} {c : Option Nat} {H0 H : AH} {L : List Ix} {x x' : Ix} (h : LB B c H0 H L) (i : Nat) (hi : L[i]? = some x) (hB : ∀ b, B' b ↔ (B b ∨ x.bs b)) (hx : x'.ok B' H) (hb : ∀ b, ¬ x'.bs b) : LB B' c H0 H (L.set i x') := by
  have hil := (List.getElem?_eq_some_iff.1 hi).1
  have get : ∀ (j : Nat) y, (L.set i x')[j]? = some y → (j = i ∧ y = x') ∨ (j ≠ i ∧ L[j]? = some y) := fun j y hy => by
    rcases Nat.decEq i j with e | e
    · rw [List.getElem?_set_ne e] at hy; exact .inr ⟨Ne.symm e, hy⟩
    · subst e; rw [List.getElem?_set_self hil] at hy; cases hy; exact .inl ⟨rfl, rfl⟩
  refine ⟨fun j y hy => ?_, fun j y hy b hb2 => ?_, fun j k y z hne hy hz b e1 e2 => ?_, h.len, h.keep, fun b hb hn => (hB b).2 (.inl (h.b0 b hb hn)), fun b hb => ?_, h.cur, fun cb e j y hy h2 => ?_⟩
  · rcases get j y hy with ⟨rfl, rfl⟩ | ⟨hne, hy⟩
    · exact hx
    · exact (h.ok j y hy).same (fun b _ => rfl) (fun b _ => rfl) fun b hb => (hB b).2 (.inl hb)
  · rcases get j y hy with ⟨rfl, rfl⟩ | ⟨hne, hy⟩
    · exact (hb b hb2).elim
    · refine ⟨fun e => ?_, (h.fr j y hy b hb2).2⟩
      rcases (hB b).1 e with e | e
      · exact (h.fr j y hy b hb2).1 e
      · exact h.dj j i y x hne hy hi b hb2 e
  · rcases get j y hy with ⟨rfl, rfl⟩ | ⟨hne1, hy'⟩
    · exact (hb b e1).elim
    · rcases get k z hz with ⟨rfl, rfl⟩ | ⟨hne2, hz⟩
      · exact (hb b e2).elim
      · exact h.dj j k y z hne hy' hz b e1 e2
  · rcases (hB b).1 hb with e | e
    · exact h.bl b e
    · exact ⟨(h.ok i x hi).lt b e, fun e2 => h.nc b e2 i x hi e⟩
  · rcases get j y hy with ⟨rfl, rfl⟩ | ⟨hne1, hy'⟩
    · exact (hb cb h2).elim
    · exact h.nc cb e j y hy' h2
theorem LX.fzr {c : Option Nat} {H0 H : AH} {L : List Ix} {v : Value} {l : List Int} (h : LX c H0 H L) (i : Nat) (hi : L[i]? = some (.own (.row v l))) : LX c H0 H (L.set i (.fro v l)) := by
  obtain ⟨B, h⟩ := h
  exact ⟨fun b => B b ∨ blkOf v = some b, h.fz i hi (fun b => Iff.rfl) ⟨OwnRow.int (h.ok i _ hi), fun b hb => .inr hb⟩ fun b hb => hb⟩
theorem LX.fzc {c : Option Nat} {H0 H : AH} {L : List Ix} {v : Value} {ks : List CK} {n : Nat} {xs : List Value} {V : List CV} (h : LX c H0 H L) (i : Nat) (hi : L[i]? = some (.own (.cmp (.row v ks n xs) V))) : LX c H0 H (L.set i (.ftab v ks n xs V)) := by
  obtain ⟨B, h⟩ := h
  obtain ⟨h1, h2⟩ := h.ok i _ hi
  exact ⟨fun b => B b ∨ (Comp.row v ks n xs).bs b, h.fz i hi (fun b => Iff.rfl) ⟨⟨OT.frow h1, fun b hb => .inr hb⟩, h2⟩ fun b hb => hb⟩
/-- What a callee leaves is held from here on. -/
theorem LX.join {c : Option Nat} {H0 H H' : AH} {L : List Ix} {L' : List It} (h : LX c H0 H L) (g : LD none H H' L') : LX c H0 H' (L'.map .own ++ L) := by
  obtain ⟨B, h⟩ := h
  obtain ⟨K, hK⟩ := g.ext
  have h1 : LB B c H0 H' L := h.grow g.len (fun b hb _ => g.keep b hb (by simp)) fun cb e => by rw [hK]; exact (h.cur cb e).mono
  have get : ∀ (i : Nat) x, (L'.map Ix.own ++ L)[i]? = some x → (∃ y, x = .own y ∧ L'[i]? = some y) ∨ (L'.length ≤ i ∧ L[i - L'.length]? = some x) := fun i x hx => by
    rcases Nat.lt_or_ge i L'.length with e | e
    · rw [List.getElem?_append_left (by simpa using e), List.getElem?_map, Option.map_eq_some_iff] at hx
      obtain ⟨y, hy, rfl⟩ := hx
      exact .inl ⟨y, rfl, hy⟩
    · rw [List.getElem?_append_right (by simpa using e), List.length_map] at hx; exact .inr ⟨e, hx⟩
  refine ⟨B, fun i x hx => ?_, fun i x hx b hb => ?_, fun i j x y hne hx hy b e1 e2 => ?_, h1.len, h1.keep, h1.b0, h1.bl, h1.cur, fun cb e i x hx hb => ?_⟩
  · rcases get i x hx with ⟨y, rfl, gx⟩ | ⟨_, hx⟩
    · exact g.ok _ y gx
    · exact h1.ok _ x hx
  · rcases get i x hx with ⟨y, rfl, gx⟩ | ⟨_, hx⟩
    · have := g.fr _ y gx b hb
      exact ⟨fun e => by have := (h.bl b e).1; omega, Nat.le_trans h.len this⟩
    · exact h1.fr _ x hx b hb
  · rcases get i x hx with ⟨x', rfl, gx⟩ | ⟨a1, hx⟩ <;> rcases get j y hy with ⟨y', rfl, gy⟩ | ⟨a2, hy⟩
    · exact g.dj i j x' y' hne gx gy b e1 e2
    · have := g.fr _ x' gx b e1; have := (h.ok _ y hy).lt b e2; omega
    · have := g.fr _ y' gy b e2; have := (h.ok _ x hx).lt b e1; omega
    · exact h1.dj _ _ x y (by omega) hx hy b e1 e2
  · rcases get i x hx with ⟨y, rfl, gx⟩ | ⟨_, hx⟩
    · have := g.fr _ y gx cb hb; have := (h.cur cb e).lt; omega
    · exact h1.nc cb e _ x hx hb
/-- What is handed back. -/
theorem LX.give {c : Option Nat} {H0 H : AH} {L : List Ix} (h : LX c H0 H L) (is : List Nat) (hn : is.Nodup) (L' : List It) (hL : is.map (fun i => L[i]?) = L'.map (fun x => some (.own x))) : LD c H0 H L' := by
  obtain ⟨B, h⟩ := h
  have get : ∀ (j : Nat) x, L'[j]? = some x → ∃ i, is[j]? = some i ∧ L[i]? = some (.own x) := fun j x hx => by
    have := congrArg (fun l => l[j]?) hL
    simp only [List.getElem?_map, hx, Option.map_some, Option.map_eq_some_iff] at this
    exact this
  refine ⟨fun j x hx => ?_, fun j x hx b hb => ?_, fun j k x y hne hx hy b e1 e2 => ?_, h.len, h.keep, h.cur, fun cb e j x hx hb => ?_⟩
  · obtain ⟨i, _, h1⟩ := get j x hx
    exact h.ok i _ h1
  · obtain ⟨i, _, h1⟩ := get j x hx
    exact (h.fr i _ h1 b hb).2
  · obtain ⟨i, hi, h1⟩ := get j x hx
    obtain ⟨i', hi', h1'⟩ := get k y hy
    refine h.dj i i' _ _ ?_ h1 h1' b e1 e2
    rintro rfl
    obtain ⟨l1, l2⟩ := List.getElem?_eq_some_iff.1 hi
    obtain ⟨l3, l4⟩ := List.getElem?_eq_some_iff.1 hi'
    have hp := List.pairwise_iff_getElem.1 hn
    rcases Nat.lt_or_gt_of_ne hne with e | e
    · exact hp _ _ l1 l3 e (l2.trans l4.symm)
    · exact hp _ _ l3 l1 e (l4.trans l2.symm)
  · obtain ⟨i, _, h1⟩ := get j x hx
    exact h.nc cb e i _ h1 hb
theorem LX.pick {c : Option Nat} {H0 H : AH} {L : List Ix} (h : LX c H0 H L) (is : List Nat) (L' : List Ix) (hL : is.map (fun i => L[i]?) = L'.map some) (hn : is.Nodup) : LX c H0 H L' := by
  obtain ⟨B, h⟩ := h
  have get : ∀ (j : Nat) x, L'[j]? = some x → ∃ i, is[j]? = some i ∧ L[i]? = some x := fun j x hx => by
    have := congrArg (fun l => l[j]?) hL
    simp only [List.getElem?_map, hx, Option.map_some, Option.map_eq_some_iff] at this
    exact this
  refine ⟨B, fun j x hx => ?_, fun j x hx b hb => ?_, fun j k x y hne hx hy b e1 e2 => ?_, h.len, h.keep, h.b0, h.bl, h.cur, fun cb e j x hx hb => ?_⟩
  · obtain ⟨i, _, h1⟩ := get j x hx
    exact h.ok i _ h1
  · obtain ⟨i, _, h1⟩ := get j x hx
    exact h.fr i _ h1 b hb
  · obtain ⟨i, hi, h1⟩ := get j x hx
    obtain ⟨i', hi', h1'⟩ := get k y hy
    refine h.dj i i' _ _ ?_ h1 h1' b e1 e2
    rintro rfl
    obtain ⟨l1, l2⟩ := List.getElem?_eq_some_iff.1 hi
    obtain ⟨l3, l4⟩ := List.getElem?_eq_some_iff.1 hi'
    have hp := List.pairwise_iff_getElem.1 hn
    rcases Nat.lt_or_gt_of_ne hne with e | e
    · exact hp _ _ l1 l3 e (l2.trans l4.symm)
    · exact hp _ _ l3 l1 e (l4.trans l2.symm)
  · obtain ⟨i, _, h1⟩ := get j x hx
    exact h.nc cb e i _ h1 hb
theorem LX.out {H0 H : AH} {L : List Ix} {cb : Nat} (h : LX (some cb) H0 H L) (hb : H0.length ≤ cb) : LX none H0 H L := by
  obtain ⟨B, h⟩ := h
  exact ⟨B, h.ok, h.fr, h.dj, h.len, fun b hb2 _ => h.keep b hb2 (by simp; omega), fun b hb2 _ => h.b0 b hb2 (by simp; omega), fun b hb => ⟨(h.bl b hb).1, by simp⟩, fun _ e => by simp at e, fun _ e => by simp at e⟩
theorem LX.cursor {H0 H H' : AH} {L : List Ix} {cb : Nat} (h : LX none H0 H L) (hf : ∃ K, H' = H ++ K) (hc : Cur H' cb) (hb : H.length ≤ cb) : LX (some cb) H0 H' L := by
  obtain ⟨B, h1⟩ := h.extd hf
  obtain ⟨B2, h⟩ := h
  have hlen := ext_len hf
  obtain ⟨K, rfl⟩ := hf
  have h3 : LB B2 none H0 (H ++ K) L := h.grow (by simp) (fun b hb _ => List.getElem?_append_left hb) (fun g e => (h.cur g e).mono)
  refine ⟨B2, h3.ok, h3.fr, h3.dj, h3.len, fun b hb _ => h3.keep b hb (by simp), fun b hb _ => h3.b0 b hb (by simp), fun b hb2 => ⟨(h3.bl b hb2).1, fun e => ?_⟩, fun g e => by cases e; exact hc, fun g e i x hx h2 => ?_⟩
  · cases e
    have := (h.bl _ hb2).1; omega
  · cases e
    have := (h.ok i x hx).lt _ h2; omega
theorem st_box {c : Option Nat} {H0 H : AH} {L : List Ix} {Φ : Value → AH → Prop} {cs : List Value} (q : LX c H0 H L) (k : ∀ H', LX c H0 H' (.own (.box H.length cs) :: L) → Φ (.pointer (some ⟨H.length, 0, none⟩)) H') : oM (some (cs, none)) H Φ := k _ (q.box cs)
theorem st_lit {c : Option Nat} {H0 H : AH} {L : List Ix} {Φ : Value → AH → Prop} {cs : List Value} {n : Nat} (l : List Int) (he : cs = ints l) (hn : n = l.length) (q : LX c H0 H L) (k : ∀ H', LX c H0 H' (.own (.row (.slice (some ⟨H.length, 0, none⟩) n 1) l) :: L) → Φ (.slice (some ⟨H.length, 0, none⟩) n 1) H') : oM (some (cs, some (n, 1))) H Φ :=
  k _ (q.nrow (DR.lit l (Nat.le_refl _) he hn) ⟨_, rfl⟩)
theorem st_cells {c : Option Nat} {H0 H : AH} {L : List Ix} {Φ : Value → AH → Prop} {cs : List Value} {n s : Nat} (q : LX c H0 H L) (k : ∀ H', LX c H0 H' (.own (.box H.length cs) :: L) → Φ (.slice (some ⟨H.length, 0, none⟩) n s) H') : oM (some (cs, some (n, s))) H Φ := k _ (q.box cs)
theorem st_set {c : Option Nat} {H0 H : AH} {L : List Ix} {Φ : Value → AH → Prop} {b : Nat} {cs cs' : List Value} (q : LX c H0 H L) (i : Nat) (hi : L[i]? = some (.own (.box b cs))) (k : ∀ H', LX c H0 H' (L.set i (.own (.box b cs'))) → Φ undef H') : oS (some (H.set b ⟨cs', .own⟩)) Φ := k _ (q.set i hi cs')
theorem st_app {c : Option Nat} {H0 H : AH} {L : List Ix} {Φ : Value → AH → Prop} {v w : Value} {l m : List Int} (q : LX c H0 H L) (i : Nat) (hi : L[i]? = some (.own (.row v l))) (hw : IntRow H w m) (hl : l.length + m.length ≤ 1073741824)
    (k : ∀ a c' H', LX c H0 H' (L.set i (.own (.row (.slice a (l.length + m.length) c') (l ++ m)))) → Φ (.slice a (l.length + m.length) c') H') : oA (app 1 v w H) Φ :=
  oA_own (q.own i hi) hw hl fun a c' H' o x => k a c' H' (q.push i hi o x)
def Same : List Nat → Tm → Tm → Prop
  | [], _, _ => True
  | k :: ks, a, b => a k = b k ∧ Same ks a b
/-- A loop over a state; what is not turned in it stays. -/
theorem rW_loopQ {P : Program} {cd : KC} {s : List Fr} {Q : Post} {σ : Type} {tm : Tm} {H H0 : AH} {c : Option Nat} {L : List Ix} (q : LX c H0 H L) (live : List Nat) (A : σ → Tm → Prop) (J : σ → List Ix → List Ix) (μ : σ → Nat) (x : σ) (hA : A x tm) (hJ : J x L = L)
    (hs : ∀ x tm' H', Same live tm' tm → A x tm' → LX c H0 H' (J x L) → rW P cd [] (lpK P (fun tm'' H'' => ∃ y, μ y < μ x ∧ Same live tm'' tm' ∧ A y tm'' ∧ LX c H0 H'' (J y L)) s Q) tm' H') : rW P (.loop cd) s Q tm H := by
  have str : ∀ {a b d : Tm}, ∀ ks, Same ks a b → Same ks b d → Same ks a d := by
    intro a b d ks
    induction ks with
    | nil => exact fun _ _ => trivial
    | cons k ks ih => exact fun h1 h2 => ⟨h1.1.trans h2.1, ih h1.2 h2.2⟩
  have sr : ∀ {a : Tm}, ∀ ks, Same ks a a := by
    intro a ks
    induction ks with
    | nil => trivial
    | cons k ks ih => exact ⟨rfl, ih⟩
  refine rW_loop (σ := σ) (fun x tm' H' => Same live tm' tm ∧ A x tm' ∧ LX c H0 H' (J x L)) μ x ⟨sr live, hA, by rw [hJ]; exact q⟩ ?_
  rintro x tm' H' ⟨h1, h2, h3⟩
  refine kW_monoQ (fun ex tm'' H'' hh => ?_) (hs x tm' H' h1 h2 h3)
  cases ex with
  | normal =>
    obtain ⟨y, e1, e2, e3, e4⟩ := hh
    exact ⟨y, e1, str live e2 h1, e3, e4⟩
  | _ => exact hh
theorem rpBytes {P : Program} {H : AH} {t e : TypeId} {v : Value} (h : RpV P H t v) (hu : P.underlying t = some (.slice e)) (he : P.underlying e = some (.int .u8)) (hc : P.cellsOf e = 1) : ∃ a n c, v = .slice a n c ∧ BRow H a n c := by
  obtain ⟨k, vs, h, rfl⟩ := h
  rcases h.slice hu with rfl | ⟨b, n, cs, rfl, h2, h3, h4, k, h5⟩
  · exact ⟨none, 0, 0, by simp [mkV, hu], fun h => by omega⟩
  · rw [hc] at h3 h5
    refine ⟨_, n, 1, by simp [mkV, hu, hc], fun _ => ⟨b, 0, cs, rfl, rfl, h2, fun j hj => ?_⟩⟩
    obtain ⟨m, h6, h7⟩ := (h5 j hj).int he
    have h8 : cs[j]? = some (.int .u8 m) := by
      have := congrArg (fun l : List Value => l[0]?) h6
      simp only [List.getElem?_take_of_lt Nat.zero_lt_one, List.getElem?_drop, Nat.mul_one, Nat.add_zero, List.getElem?_cons_zero] at this
      exact this
    refine ⟨m, by rw [Nat.zero_add]; exact h8, ?_⟩
    have := h7
    simp [Lit.wf] at this
    have e1 : IntKind.u8.min = 0 := rfl
    have e2 : IntKind.u8.max = 255 := rfl
    omega
set_option maxHeartbeats 4000000 in
theorem sameInts_ok {H : AH} {v w : Value} {l m : List Int} (hv : IntRow H v l) (hw : IntRow H w m) (hl : l.length < 9223372036854775807) : CallsA Try.prog 62 #[v, w] H fun r H' => r = .bool (l == m) ∧ H' = H := by
  obtain ⟨a, c, rfl, gv⟩ := hv.op
  obtain ⟨a', c', rfl, gw⟩ := hw.op
  refine w62 ?_
  unfold k62
  simp -implicitDefEqProofs only [kz, kk0, kk1, kk2, kk3, ↓two_true, ↓two_false, oS_some, oM_some, mkv, aggAt, Nat.reduceLeDiff, Nat.reduceSub, Nat.reduceMul, implies_true, Nat.reduceEqDiff, reduceIte, Nat.reduceAdd, Nat.reduceBEq, reduceCtorEq, ix64, ld3, ln64]
  refine two_intro (fun h => ?_) (fun h => ?_)
  · have : (l == m) = false := by
      rw [beq_eq_false_iff_ne]
      rintro rfl
      simp at h
    rw [this]
  · have hlen : l.length = m.length := by simp at h; omega
    refine rW_loop (σ := Nat) (fun i tm H' => tm 0 = .slice a l.length c ∧ tm 1 = .slice a' m.length c' ∧ tm 5 = .int .i64 i ∧ H' = H ∧ i ≤ l.length ∧ ∀ j, j < i → l[j]? = m[j]?) (fun i => l.length - i) 0 ?_ ?_
    · simp -implicitDefEqProofs [kk0, kk1, kk2, kk3, rW_block, ↓two_true, ↓two_false, rW_cond, rO_guard, oS_some, oM_some, mkv, aggAt, Nat.reduceLeDiff, Nat.reduceSub, Nat.reduceMul, cond_true, cond_false, Option.bind_some, List.length_append, List.length_cons, List.length_nil, List.append_assoc, List.cons_append, List.nil_append, List.set_cons_zero, List.set_cons_succ, List.size_toArray, List.all_cons, List.all_nil, List.drop_zero, List.drop_succ_cons, List.take_succ_cons, List.take_zero, List.mem_cons, Prod.mk.injEq, List.not_mem_nil, implies_true, List.getElem?_toArray, List.getElem?_cons_zero, List.getElem?_cons_succ, List.getElem?_nil, Option.getD_some, Option.getD_none, Nat.reduceEqDiff, reduceIte, Nat.reduceAdd, List.map_toArray, List.map_cons, List.map_nil, Bool.false_eq_true, Nat.reduceBEq, Option.map_some, Option.map_none, reduceCtorEq, ix64, ld3, ln64]
    · rintro i tm H' ⟨h0, h1, h5, rfl, hi, hn⟩
      simp -implicitDefEqProofs only [kz, kk0, kk1, kk2, kk3, ↓two_true, ↓two_false, oS_some, oM_some, mkv, aggAt, Nat.reduceLeDiff, Nat.reduceSub, Nat.reduceMul, implies_true, Nat.reduceEqDiff, reduceIte, Nat.reduceAdd, Nat.reduceBEq, reduceCtorEq, ix64, ld3, ln64, h0, h1, h5]
      refine two_intro (fun hc => ?_) (fun hc => ?_)
      · have hc' : i < l.length := by simpa using hc
        have hc2 : i < m.length := by omega
        obtain ⟨b, o, cs, rfl, rfl, hrd, _, hcell⟩ := gv (by omega)
        obtain ⟨b', o', cs', rfl, rfl, hrd', _, hcell'⟩ := gw (by omega)
        simp -implicitDefEqProofs only [kz, kk0, kk1, kk2, kk3, ↓two_true, ↓two_false, oS_some, oM_some, mkv, aggAt, Nat.reduceLeDiff, Nat.reduceSub, Nat.reduceMul, implies_true, Nat.reduceEqDiff, reduceIte, Nat.reduceAdd, Nat.reduceBEq, reduceCtorEq, ix64, ld3, ln64, h0, h1, h5, Int.toNat_natCast, Nat.mul_one, hrd, hrd', hcell i hc', hcell' i hc2, IntWalk.i64_in (↑i + 1) (by omega)]
        refine ⟨⟨by omega, by omega⟩, ⟨by omega, by omega⟩, two_intro (fun h => ?_) (fun h => ?_)⟩
        · have : (l == m) = false := by
            rw [beq_eq_false_iff_ne]
            rintro rfl
            simp at h
          rw [this]
        · refine ⟨i + 1, by omega, by simp, hc', fun j hj => ?_⟩
          rcases Nat.lt_or_ge j i with h1 | h1
          · exact hn j h1
          · have : j = i := by omega
            subst this
            simpa [hc', hc2] using h
      · have hc' : ¬ i < l.length := by simpa using hc
        have : (l == m) = true := by
          rw [beq_iff_eq]
          refine List.ext_getElem? fun j => ?_
          rcases Nat.lt_or_ge j i with h1 | h1
          · exact hn j h1
          · rw [List.getElem?_eq_none (by omega), List.getElem?_eq_none (by omega)]
        rw [this]
def rowsV (rs : List (List Int × List Int)) : List CV := rs.flatMap fun r => [.r r.1, .r r.2]
theorem rowsV_len {rs : List (List Int × List Int)} : (rowsV rs).length = rs.length * 2 := by
  induction rs with
  | nil => rfl
  | cons r rs ih => simp only [rowsV, List.flatMap_cons, List.length_append, List.length_cons, List.length_nil] at ih ⊢; omega
theorem rowsV_get : ∀ {rs : List (List Int × List Int)} {i : Nat} (h : i < rs.length), (rowsV rs)[i * 2]? = some (.r rs[i].1) ∧ (rowsV rs)[i * 2 + 1]? = some (.r rs[i].2)
  | r :: rs, 0, _ => by simp [rowsV]
  | r :: rs, i + 1, h => by
    have h' : i < rs.length := by simpa using h
    obtain ⟨h1, h2⟩ := rowsV_get h'
    have e : rowsV (r :: rs) = .r r.1 :: .r r.2 :: rowsV rs := rfl
    refine ⟨?_, ?_⟩
    · rw [e, show (i + 1) * 2 = i * 2 + 1 + 1 by omega, List.getElem?_cons_succ, List.getElem?_cons_succ, h1]; rfl
    · rw [e, show (i + 1) * 2 + 1 = i * 2 + 1 + 1 + 1 by omega, List.getElem?_cons_succ, List.getElem?_cons_succ, h2]; rfl
/-- A row of arrays that may be read. -/
def RowsA (H : AH) (v : Value) (rs : List (List Int × List Int)) : Prop :=
  ∃ a c, v = .slice a rs.length c ∧ (0 < rs.length → ∃ b o cs, a = some ⟨b, o, none⟩ ∧ c = 2 ∧ rd H b = some cs ∧
    ∀ i (hi : i < rs.length), ∃ p q, cs[o + i * 2]? = some p ∧ cs[o + i * 2 + 1]? = some q ∧ IntRow H p rs[i].1 ∧ IntRow H q rs[i].2)
theorem RowsA.ext {H H' : AH} {v : Value} {rs : List (List Int × List Int)} (h : RowsA H v rs) (he : ∃ K, H' = H ++ K) : RowsA H' v rs := by
  obtain ⟨a, c, e, g⟩ := h
  refine ⟨a, c, e, fun h0 => ?_⟩
  obtain ⟨b, o, cs, e1, e2, h1, h2⟩ := g h0
  refine ⟨b, o, cs, e1, e2, rd_ext h1 he, fun i hi => ?_⟩
  obtain ⟨p, q, g1, g2, g3, g4⟩ := h2 i hi
  exact ⟨p, q, g1, g2, g3.ext he, g4.ext he⟩
theorem FRow.rows {H : AH} {v : Value} {n : Nat} {xs : List Value} {rs : List (List Int × List Int)} (h : FRow H v [.r, .r] n xs) (hv : cvs H xs = rowsV rs) : RowsA H v rs ∧ n = rs.length := by
  have hn : n = rs.length := by
    have := congrArg List.length hv
    have hl := h.len
    simp only [cvs, List.length_map, rowsV_len, List.length_cons, List.length_nil] at this hl
    omega
  subst hn
  obtain ⟨a, c, rfl, g⟩ := h.opn 2 rfl
  refine ⟨⟨a, c, rfl, fun h0 => ?_⟩, rfl⟩
  obtain ⟨b, o, cs, rfl, rfl, h1, h2, h3⟩ := g h0
  refine ⟨b, o, cs, rfl, rfl, h1, fun i hi => ?_⟩
  obtain ⟨h4, h5⟩ := h3 i hi
  obtain ⟨p, _, e, kp, q, _, rfl, kq, rfl⟩ := h.elemn 2 rfl hi
  rw [e] at h5
  obtain ⟨g1, g2⟩ := rowsV_get hi
  have e0 : (elm 2 xs i)[0]? = some p := by rw [e]; rfl
  have e1 : (elm 2 xs i)[1]? = some q := by rw [e]; rfl
  rw [elm_get (by omega)] at e0 e1
  rw [← hv] at g1 g2
  simp only [cvs, List.getElem?_map] at g1 g2
  rw [Nat.add_zero] at e0
  rw [e0, Option.map_some, cv_row kp.1] at g1
  rw [e1, Option.map_some, cv_row kq.1] at g2
  injection g1 with g1; injection g1 with g1
  injection g2 with g2; injection g2 with g2
  refine ⟨p, q, h5 0 p rfl, h5 1 q rfl, ?_, ?_⟩
  · rw [← g1]; exact kp.1
  · rw [← g2]; exact kq.1
/-- A part of a row. -/
theorem IntRow.sl {P : Program} {t e : TypeId} {H : AH} {a : Option Addr} {n c : Nat} {l : List Int} (ht : P.underlying t = some (.slice e)) (hs : szOf P e = some 1) (h : IntRow H (.slice a n c) l) {lo hi : Option Value} {x y : Nat}
    (hx : optInt 0 lo = some (x : Int)) (hy : optInt n hi = some (y : Int)) (hxy : x ≤ y) (hyn : y ≤ l.length) :
    ∃ a' c', aSlice P t (.slice a n c) lo hi = some (.slice a' (y - x) c') ∧ IntRow H (.slice a' (y - x) c') ((l.drop x).take (y - x)) ∧ (blkOf (.slice a' (y - x) c') = none ∨ blkOf (.slice a' (y - x) c') = blkOf (.slice a n c)) := by
  rcases h with ⟨e1, rfl⟩ | ⟨b, o, cs, e1, h2, h3, h4⟩
  · injection e1 with e1 e2 e3
    subst e1; subst e2; subst e3
    have : y = 0 := by simpa using hyn
    subst this
    obtain rfl : x = 0 := by omega
    refine ⟨none, 0, ?_, .inl ⟨rfl, rfl⟩, .inl rfl⟩
    rw [sln_eq ht hs, hx, hy]
    simp
  · injection e1 with e1 e2 e3
    subst e1; subst e2; subst e3
    have hlen : ((l.drop x).take (y - x)).length = y - x := by simp; omega
    refine ⟨some ⟨b, o + x, none⟩, 1, ?_, .inr ⟨b, o + x, cs, by rw [hlen], h2, by rw [hlen]; omega, ?_⟩, .inr rfl⟩
    · rw [slc_eq ht hs, hx, hy, slc_some, if_pos (by omega)]
      simp
    · rw [hlen]
      have : ints ((l.drop x).take (y - x)) = ((ints l).drop x).take (y - x) := by simp [ints]
      rw [this, ← h4, List.drop_take, List.take_take, List.drop_drop]
      rw [Nat.min_eq_left (by omega)]
theorem New.back {H0 H1 H : AH} {v : Value} {ks : List CK} {n : Nat} {ys : List Value} (h : New H1 H v ks n ys) (hl : H0.length ≤ H1.length) : New H0 H v ks n ys := ⟨h.ot, fun b hb => Nat.le_trans hl (h.fr b hb)⟩
theorem LD.rows {c : Option Nat} {H0 H : AH} {L : List It} {v : Value} {n : Nat} {ys : List Value} {rs : List (List Int × List Int)} (h : LD c H0 H L) (i : Nat) (hi : L[i]? = some (.cmp (.row v [.r, .r] n ys) (rowsV rs))) : RowsA H v rs ∧ n = rs.length := by
  obtain ⟨h1, h2⟩ := h.ok i _ hi
  exact FRow.rows (OT.frow h1) h2
theorem FRow.cln {H : AH} {v : Value} {ks : List CK} {n : Nat} {xs : List Value} (s : Nat) (hs : ks.length = s) (h : FRow H v ks n xs) : Go.Proofs.Ytdagncfnkenbfaa.AM.cl H s v = some xs ∧ lenS v = n ∧ xs.all leaf = true := by
  subst hs
  have hl := h.len
  refine ⟨?_, ?_, List.all_eq_true.2 fun y hy => ?_⟩
  · rcases h.row with ⟨rfl, rfl⟩ | ⟨b, o, cs, rfl, h1, h2, h3⟩
    · have : xs = [] := List.eq_nil_of_length_eq_zero (by rw [hl]; simp)
      rw [this]; rfl
    · simp only [Go.Proofs.Ytdagncfnkenbfaa.AM.cl, h1, Option.bind_some]
      rw [if_pos h2]
      congr 1
      refine List.ext_getElem? fun j => ?_
      rcases Nat.lt_or_ge j (n * ks.length) with e | e
      · rw [List.getElem?_take_of_lt e, List.getElem?_drop, List.getElem?_eq_getElem (by omega)]
        have := h3 j _ (List.getElem?_eq_getElem (l := xs) (by omega))
        rw [List.getElem?_eq_getElem (by omega)] at this
        exact this.trans (List.getElem?_eq_getElem (by omega)).symm
      · rw [List.getElem?_eq_none (by simp; omega), List.getElem?_eq_none (by omega)]
  · rcases h.row with ⟨rfl, rfl⟩ | ⟨b, o, cs, rfl, h1, h2, h3⟩ <;> rfl
  · obtain ⟨j, hj⟩ := List.mem_iff_getElem?.1 hy
    obtain ⟨k, hk⟩ := h.cell hj
    exact hk.leaf
theorem TabOk.ownOk {B : Nat → Prop} {H : AH} {v : Value} {ks : List CK} {n : Nat} {xs : List Value} (s : Nat) (hs : ks.length = s) (h : TabOk B H v ks n xs) : Go.Proofs.Ytdagncfnkenbfaa.AM.ownOk v s H = true := by
  subst hs
  rcases h.row with ⟨rfl, rfl⟩ | ⟨b, o, cs, rfl, h1, h2, h3⟩
  · simp [Go.Proofs.Ytdagncfnkenbfaa.AM.ownOk]
  · simp [Go.Proofs.Ytdagncfnkenbfaa.AM.ownOk, h1]
/-- Rows that are only read are put behind a table. -/
theorem st_appT {c0 : Option Nat} {H0 H : AH} {L : List Ix} {Φ : Value → AH → Prop} {v w : Value} {ks : List CK} {n m : Nat} {xs ys : List Value} {V W : List CV} (s : Nat) (hs : ks.length = s) (q : LX c0 H0 H L) (i : Nat) (hi : L[i]? = some (.tab v ks n xs V))
    (hw : ∀ B, LB B c0 H0 H L → FRow H w ks m ys ∧ cvs H ys = W ∧ ∀ y ∈ ys, ∀ b, blkOf y = some b → B b) (hl : n + m ≤ 1073741824)
    (k : ∀ a c H', LX c0 H0 H' (L.set i (.tab (.slice a (n + m) c) ks (n + m) (xs ++ ys) (V ++ W))) → Φ (.slice a (n + m) c) H') : oA (app s v w H) Φ := by
  obtain ⟨B, h⟩ := q
  obtain ⟨t1, t2⟩ := h.ok i _ hi
  obtain ⟨f1, f2, f3⟩ := hw B h
  obtain ⟨c1, c2, c3⟩ := t1.frow.cln s hs
  obtain ⟨d1, d2, d3⟩ := f1.cln s hs
  have c4 := t1.ownOk s hs
  unfold app
  rw [c1, d1]
  simp only
  rw [d2, c2]
  have l1 := t1.len
  have l2 := f1.len
  subst hs
  by_cases hm : m = 0
  · rw [if_pos hm]
    subst hm
    have e : ys = [] := List.eq_nil_of_length_eq_zero (by rw [l2]; simp)
    subst e
    obtain ⟨a, c, e, _⟩ := t1.frow.op
    subst e
    have e2 : W = [] := by rw [← f2]; rfl
    subst e2
    have := k a c H
    simp only [List.append_nil, Nat.add_zero] at this
    refine this ⟨B, ?_⟩
    have e3 : L.set i (.tab (.slice a n c) ks n xs V) = L := by
      refine List.ext_getElem? fun j => ?_
      rcases Nat.decEq i j with e | e
      · rw [List.getElem?_set_ne e]
      · subst e; rw [List.getElem?_set_self (List.getElem?_eq_some_iff.1 hi).1]; exact hi.symm
    rw [e3]; exact h
  · rw [if_neg hm, if_pos ⟨hl, d3, c4⟩]
    have keep : ∀ b, b < H.length → blkOf v ≠ some b → (kill v H ++ [⟨xs ++ ys, .own⟩] : AH)[b]? = H[b]? := fun b hb hn => by
      rw [List.getElem?_append_left (by rw [kill_len2]; exact hb), kill_keep hn]
    have hB : ∀ b, B b → (kill v H ++ [⟨xs ++ ys, .own⟩] : AH)[b]? = H[b]? := fun b hb => keep b (h.bl b hb).1 fun e => (h.fr i _ hi b e).1 hb
    have hcell : ∀ y ∈ xs ++ ys, ∀ b, blkOf y = some b → B b := fun y hy b hb => (List.mem_append.1 hy).elim (fun h1 => t1.base y h1 b hb) fun h1 => f3 y h1 b hb
    refine k _ _ _ ⟨B, h.upd i hi (by simp [kill_len2]) (fun b hb hn => keep b hb hn) ⟨⟨?_, ?_, ?_, hcell⟩, ?_⟩ fun b hb => .inr ?_⟩
    · rw [List.length_append, l1, l2, Nat.add_mul]
    · refine .inr ⟨H.length, 0, xs ++ ys, rfl, by rw [← kill_len2 (v := v), gt0]; rfl, by rw [List.length_append, l1, l2, Nat.add_mul]; omega, fun j y hy => by rw [Nat.zero_add]; exact hy⟩
    · intro i' c k' y hi' hk' hy
      have hmem : y ∈ xs ++ ys := List.mem_of_getElem? hy
      refine KOk.same (H := H) ?_ fun b hb => get_rd (hB b (hcell y hmem b hb))
      have hc := (List.getElem?_eq_some_iff.1 hk').1
      rcases Nat.lt_or_ge i' n with h1 | h1
      · have := row_lt (s := ks.length) h1
        rw [List.getElem?_append_left (by rw [l1]; omega)] at hy
        exact t1.cell i' c k' y h1 hk' hy
      · obtain ⟨d, rfl⟩ := Nat.exists_eq_add_of_le h1
        rw [List.getElem?_append_right (by rw [l1, Nat.add_mul]; omega), l1, Nat.add_mul, Nat.add_assoc, Nat.add_sub_cancel_left] at hy
        exact f1.ok d c k' y (by omega) hk' hy
    · unfold cvs
      rw [List.map_append]
      congr 1
      · rw [← t2]; exact List.map_congr_left fun y hy => cv_same fun b hb => get_rd (hB b (hcell y (List.mem_append.2 (.inl hy)) b hb))
      · rw [← f2]; exact List.map_congr_left fun y hy => cv_same fun b hb => get_rd (hB b (hcell y (List.mem_append.2 (.inr hy)) b hb))
    · simp [Ix.bs, blkOf] at hb; omega
/-- An element of a table that is only read: its rows, held as rows that are only read. -/
theorem LX.elem {c0 : Option Nat} {H0 H : AH} {L : List Ix} {v : Value} {n : Nat} {xs : List Value} {rs : List (List Int × List Int)} {k : Nat} (q : LX c0 H0 H L) (i : Nat) (hi : L[i]? = some (.ftab v [.r, .r] n xs (rowsV rs))) (hk : k < rs.length) :
    ∃ b o cs p p', v = .slice (some ⟨b, o, none⟩) n 2 ∧ Go.Proofs.Ytdagncfnkenbfaa.AM.rd H b = some cs ∧ cs[o + k * 2]? = some p ∧ cs[o + k * 2 + 1]? = some p' ∧ LX c0 H0 H (.fro p rs[k].1 :: .fro p' rs[k].2 :: L) := by
  obtain ⟨B, h⟩ := q
  obtain ⟨t1, t2⟩ := h.ok i _ hi
  have hn : n = rs.length := (FRow.rows t1.fr t2).2
  have hl := t1.fr.len
  simp only [List.length_cons, List.length_nil] at hl
  rcases t1.fr.row with ⟨_, e⟩ | ⟨b, o, cs, e, h2, h3, h4⟩
  · omega
  · obtain ⟨g1, g2⟩ := rowsV_get hk
    have e0 := List.getElem?_eq_getElem (l := xs) (i := k * 2) (by omega)
    have e1 := List.getElem?_eq_getElem (l := xs) (i := k * 2 + 1) (by omega)
    have k0 := t1.fr.ok k 0 .r (xs[k * 2]'(by omega)) (by omega) rfl e0
    have k1 := t1.fr.ok k 1 .r _ (by omega) rfl e1
    rw [← t2] at g1 g2
    simp only [cvs, List.getElem?_map, e0, e1, Option.map_some, cv_row k0.1, cv_row k1.1, Option.some.injEq, CV.r.injEq] at g1 g2
    refine ⟨b, o, cs, _, _, by rw [e]; rfl, h2, h4 _ _ e0, by rw [Nat.add_assoc]; exact h4 _ _ e1, B, ?_⟩
    have m0 : ∀ g, blkOf (xs[k * 2]'(by omega)) = some g → B g := fun g hg => t1.base g (.inr ⟨_, List.getElem_mem _, hg⟩)
    have m1 : ∀ g, blkOf (xs[k * 2 + 1]'(by omega)) = some g → B g := fun g hg => t1.base g (.inr ⟨_, List.getElem_mem _, hg⟩)
    have h5 : LB B c0 H0 H (.fro _ rs[k].2 :: L) := h.add (x := .fro (xs[k * 2 + 1]'(by omega)) rs[k].2) (Nat.le_refl _) (fun b hb _ => rfl) h.cur ⟨by rw [← g2]; exact k1.1, m1⟩ fun b hb => hb.elim
    exact h5.add (x := .fro (xs[k * 2]'(by omega)) rs[k].1) (Nat.le_refl _) (fun b hb _ => rfl) h.cur ⟨by rw [← g1]; exact k0.1, m0⟩ fun b hb => hb.elim

theorem IntRow.tl {H : AH} {a : Option Addr} {n c : Nat} {l : List Int} (h : IntRow H (.slice a n c) l) (h1 : 1 ≤ l.length) : ∃ a' c', aSlice Try.prog 64 (.slice a n c) (some (.int .i64 1)) none = some (.slice a' l.tail.length c') ∧ IntRow H (.slice a' l.tail.length c') l.tail := by
  have hn : n = l.length := by
    obtain ⟨a', c', e, _⟩ := h.op
    injection e
  subst hn
  obtain ⟨t, y, e1, e2, -⟩ := IntRow.sl (P := Try.prog) (t := 64) (e := 3) (lo := some (.int .i64 1)) (hi := none) (x := 1) (y := l.length) Try.underlying64 (by kernel_rfl) h rfl rfl h1 (Nat.le_refl _)
  have e3 : (l.drop 1).take (l.length - 1) = l.tail := by rw [List.drop_one, List.take_of_length_le (by simp)]
  have e4 : l.length - 1 = l.tail.length := by simp
  rw [e3, e4] at e2
  rw [e4] at e1
  exact ⟨t, y, e1, e2⟩

/-- A row's elements, each as its cells' values. -/
def chunk (s : Nat) (V : List CV) (n : Nat) : List (List CV) := (List.range n).map fun i => (V.drop (i * s)).take s
theorem chunk_len {s n : Nat} {V : List CV} : (chunk s V n).length = n := by simp [chunk]
theorem chunk_get {s n i : Nat} {H : AH} {xs : List Value} (h : i < n) : (chunk s (cvs H xs) n)[i]? = some ((elm s xs i).map (cv H)) := by
  simp [chunk, h, elm, cvs]
theorem chunk_get' {s n i : Nat} {H : AH} {xs : List Value} (h : i < (chunk s (cvs H xs) n).length) : (chunk s (cvs H xs) n)[i] = (elm s xs i).map (cv H) := by
  have := chunk_get (s := s) (H := H) (xs := xs) (by rwa [chunk_len] at h : i < n)
  rw [List.getElem?_eq_getElem h] at this
  exact Option.some.inj this

set_option maxHeartbeats 4000000 in
theorem indexFuncInstr_ok {H : AH} {v : Value} {n : Nat} {xs : List Value} {g : FuncId} {p : List CV → Bool} (hv : FRow H v kInstr n xs) (hl : n ≤ 1073741824)
    (hp : ∀ (L : AH) x, All2 (H ++ L) kInstr x → CallsA Try.prog g #[.agg x.toArray] (H ++ L) fun r H' => r = .bool (p (x.map (cv (H ++ L)))) ∧ ∃ K, H' = (H ++ L) ++ K) :
    CallsA Try.prog 89 #[v, .func (.func g) #[] #[]] H fun r H' => r = .int .i64 (idxF p (chunk 6 (cvs H xs) n)) ∧ ∃ K, H' = H ++ K := by
  obtain ⟨a, c, rfl, gv⟩ := hv.opn 6 rfl
  refine w89 ?_
  unfold k89
  simp -implicitDefEqProofs only [kz, kk0, kk1, kk2, kk3, ↓two_true, ↓two_false, oS_some, oM_some, mkv, aggAt, Nat.reduceLeDiff, Nat.reduceSub, Nat.reduceMul, implies_true, Nat.reduceEqDiff, reduceIte, Nat.reduceAdd, Nat.reduceBEq, reduceCtorEq, ix29, ld66, ln29]
  refine rW_loop (σ := Nat) (fun i tm H' => tm 0 = .slice a n c ∧ tm 1 = .func (.func g) #[] #[] ∧ tm 7 = .int .i64 n ∧ tm 8 = .int .i64 i ∧ (∃ K, H' = H ++ K) ∧ i ≤ n ∧ ∀ x ∈ (chunk 6 (cvs H xs) n).take i, p x = false) (fun i => n - i) 0 ?_ ?_
  · simp -implicitDefEqProofs [kk0, kk1, kk2, kk3, rW_block, ↓two_true, ↓two_false, rW_cond, rO_guard, oS_some, oM_some, mkv, aggAt, Nat.reduceLeDiff, Nat.reduceSub, Nat.reduceMul, cond_true, cond_false, Option.bind_some, List.length_append, List.length_cons, List.length_nil, List.append_assoc, List.cons_append, List.nil_append, List.set_cons_zero, List.set_cons_succ, List.size_toArray, List.all_cons, List.all_nil, List.drop_zero, List.drop_succ_cons, List.take_succ_cons, List.take_zero, List.mem_cons, Prod.mk.injEq, List.not_mem_nil, implies_true, List.getElem?_toArray, List.getElem?_cons_zero, List.getElem?_cons_succ, List.getElem?_nil, Option.getD_some, Option.getD_none, Nat.reduceEqDiff, reduceIte, Nat.reduceAdd, List.map_toArray, List.map_cons, List.map_nil, Bool.false_eq_true, Nat.reduceBEq, Option.map_some, Option.map_none, reduceCtorEq, ix29, ld66, ln29]
  · rintro i tm H' ⟨h0, h1, h7, h8, ⟨K, rfl⟩, hi, hn⟩
    simp -implicitDefEqProofs only [kz, kk0, kk1, kk2, kk3, ↓two_true, ↓two_false, oS_some, oM_some, mkv, aggAt, Nat.reduceLeDiff, Nat.reduceSub, Nat.reduceMul, implies_true, Nat.reduceEqDiff, reduceIte, Nat.reduceAdd, Nat.reduceBEq, reduceCtorEq, ix29, ld66, ln29, h0, h1, h7, h8]
    refine two_intro (fun hc => ?_) (fun hc => ?_)
    · have hc' : i < n := by simpa using hc
      obtain ⟨b, o, cs, rfl, rfl, hrd, hle, hcell⟩ := gv (by omega)
      have g1 : rd (H ++ K) b = some cs := by rw [rdl (by simp [hrd]), hrd]
      have l1 : ld Try.prog 66 (o + i * 6) cs = some (.agg (elm 6 xs i).toArray) := by rw [ld66]; exact (hcell i hc').1
      have x1 := hv.elemn 6 rfl hc'
      have e := fun Φ => (hp K _ (x1.mono (L := K))).eqV (Φ := Φ)
      rw [x1.mapcv] at e
      have hci : i < (chunk 6 (cvs H xs) n).length := by rw [chunk_len]; exact hc'
      have hcg := chunk_get' hci
      simp -implicitDefEqProofs only [kz, kk0, kk1, kk2, kk3, ↓two_true, ↓two_false, oS_some, oM_some, mkv, aggAt, Nat.reduceLeDiff, Nat.reduceSub, Nat.reduceMul, implies_true, Nat.reduceEqDiff, reduceIte, Nat.reduceAdd, Nat.reduceBEq, reduceCtorEq, ix29, ld66, ln29, h0, h1, h7, h8, Int.toNat_natCast, g1, l1, Array.empty_append, Array.append_empty, e, IntWalk.i64_in (↑i + 1) (by omega)]
      refine ⟨⟨by omega, by omega⟩, two_intro (fun h => ?_) (fun h => ?_)⟩
      · exact ⟨by rw [idxF_some hci (by rw [hcg]; exact h) hn], _, rfl⟩
      · refine ⟨i + 1, by omega, by simp, ⟨_, rfl⟩, hc', ?_⟩
        intro x hx
        rw [List.take_succ_eq_append_getElem hci] at hx
        rcases List.mem_append.1 hx with hx | hx
        · exact hn x hx
        · rw [List.mem_singleton.1 hx, hcg]; exact h
    · have hc' : ¬ i < n := by simpa using hc
      have hil : i = n := by omega
      subst hil
      rw [List.take_of_length_le (by rw [chunk_len]; exact Nat.le_refl _)] at hn
      exact ⟨by rw [idxF_none hn], _, rfl⟩

set_option maxHeartbeats 4000000 in
theorem containsFuncInstr_ok {H : AH} {v : Value} {n : Nat} {xs : List Value} {g : FuncId} {p : List CV → Bool} (hv : FRow H v kInstr n xs) (hl : n ≤ 1073741824)
    (hp : ∀ (L : AH) x, All2 (H ++ L) kInstr x → CallsA Try.prog g #[.agg x.toArray] (H ++ L) fun r H' => r = .bool (p (x.map (cv (H ++ L)))) ∧ ∃ K, H' = (H ++ L) ++ K) :
    CallsA Try.prog 59 #[v, .func (.func g) #[] #[]] H fun r H' => r = .bool ((chunk 6 (cvs H xs) n).any p) ∧ ∃ K, H' = H ++ K := by
  have e := fun Φ => (indexFuncInstr_ok hv hl hp).eqV (Φ := Φ)
  refine w59 ?_
  unfold k59
  simp -implicitDefEqProofs only [kz, kk0, kk1, kk2, kk3, ↓two_true, ↓two_false, oS_some, oM_some, mkv, aggAt, Nat.reduceLeDiff, Nat.reduceSub, Nat.reduceMul, implies_true, Nat.reduceEqDiff, reduceIte, Nat.reduceAdd, Nat.reduceBEq, reduceCtorEq, e, idxF_any]
  exact ⟨_, rfl⟩

def numsOk (l : List Int) : Bool := inB l.length 1 300 && l.all numOk

structure Ins where
  op : Int
  a : Int
  s : Int
  o : Int
  w : Int
  nums : List Int
def insOf : List CV → Ins
  | [.i op, .i a, .i s, .i o, .i w, .r l] => ⟨op, a, s, o, w, l⟩
  | _ => ⟨0, 0, 0, 0, 0, []⟩
def insOk (x : Ins) : Bool :=
  (x.op == 1 && (x.a == 0 && ((x.s == 0 && (x.o == 0 && x.w == 0)) && numsOk x.nums))) ||
  ((x.op == 2 || x.op == 3) && (inB x.a 0 25 && ((x.s == 0 && (x.o == 0 && x.w == 0)) && (x.nums.length : Int) == 0))) ||
  (x.op == 4 && (x.a == 0 && (funOne x.s x.o x.w && (x.nums.length : Int) == 0))) ||
  (x.op == 5 && (x.a == 0 && (funTwo x.s x.o x.w && (x.nums.length : Int) == 0)))
def tk (x : Ins) : Int := if x.op = 5 then 2 else if x.op = 3 ∨ x.op = 4 then 1 else 0
def dAt (l : List Ins) (i : Nat) : Int := ((l.take i).map fun x => 1 - tk x).sum
def dOk (l : List Ins) : Bool := (List.range l.length).all fun i => match l[i]? with | some x => decide (tk x ≤ dAt l i) | none => true
def dL (l : List Ins) : List Int := (List.range (l.length + 1)).map (dAt l)
def cdOk (l : List Ins) : Bool := inB l.length 1 60 && (l.all insOk && (dOk l && dAt l l.length == 1))
def insL (V : List CV) (n : Nat) : List Ins := (chunk 6 V n).map insOf
theorem insL_len {V : List CV} {n : Nat} : (insL V n).length = n := by simp [insL, chunk_len]
theorem insL_get {H : AH} {xs : List Value} {n i : Nat} (h : i < n) : (insL (cvs H xs) n)[i]? = some (insOf ((elm 6 xs i).map (cv H))) := by
  simp only [insL, List.getElem?_map, chunk_get h, Option.map_some]
theorem dAt_succ {l : List Ins} {i : Nat} {x : Ins} (h : l[i]? = some x) : dAt l (i + 1) = dAt l i + 1 - tk x := by
  obtain ⟨h1, h2⟩ := List.getElem?_eq_some_iff.1 h
  unfold dAt
  rw [List.take_succ_eq_append_getElem h1, h2, List.map_append, List.sum_append]
  simp
  omega
theorem tk_le {x : Ins} : 0 ≤ tk x ∧ tk x ≤ 2 := by
  unfold tk
  split
  · omega
  · split <;> omega
theorem dAt_le {l : List Ins} : ∀ {i : Nat}, -(i : Int) ≤ dAt l i ∧ dAt l i ≤ i
  | 0 => by simp [dAt]
  | i + 1 => by
    have h := dAt_le (l := l) (i := i)
    cases hx : l[i]? with
    | none =>
      have hl : l.length ≤ i := List.getElem?_eq_none_iff.1 hx
      have : dAt l (i + 1) = dAt l i := by unfold dAt; rw [List.take_of_length_le (by omega), List.take_of_length_le hl]
      omega
    | some x =>
      rw [dAt_succ hx]
      have := tk_le (x := x)
      omega
theorem dOk_false {l : List Ins} {i : Nat} {x : Ins} (h : l[i]? = some x) (hd : dAt l i < tk x) : dOk l = false := by
  obtain ⟨h1, _⟩ := List.getElem?_eq_some_iff.1 h
  rw [Bool.eq_false_iff]
  intro ha
  have := (List.all_eq_true.1 ha) i (List.mem_range.2 h1)
  simp only [h, decide_eq_true_eq] at this
  omega
theorem dOk_true {l : List Ins} (h : ∀ (i : Nat) x, l[i]? = some x → tk x ≤ dAt l i) : dOk l = true := by
  refine List.all_eq_true.2 fun i _ => ?_
  split
  · rename_i x hx; simpa using h i x hx
  · rfl
theorem dL_get {l : List Ins} {i : Nat} (h : i ≤ l.length) : (dL l)[i]? = some (dAt l i) := by
  unfold dL
  rw [List.getElem?_map, List.getElem?_range (by omega)]
  rfl
theorem all2_instr {H : AH} {x : List Value} (h : All2 H kInstr x) : ∃ op a s o w y, x = [.int .i64 op, .int .i64 a, .int .i64 s, .int .i64 o, .int .i64 w, y] ∧ KOk H .r y ∧ insOf (x.map (cv H)) = ⟨op, a, s, o, w, rowI H y⟩ := by
  obtain ⟨y0, _, rfl, ⟨a0, rfl⟩, y1, _, rfl, ⟨a1, rfl⟩, y2, _, rfl, ⟨a2, rfl⟩, y3, _, rfl, ⟨a3, rfl⟩, y4, _, rfl, ⟨a4, rfl⟩, y5, _, rfl, k5, rfl⟩ := h
  refine ⟨a0, a1, a2, a3, a4, y5, rfl, k5, ?_⟩
  simp only [List.map_cons, List.map_nil, cv_row k5.1, cv_int, insOf]

theorem numsOk1_eq {x : Int} {H : AH} {Φ : Value → AH → Prop} : CallsA Try.prog 100 #[.int .i64 x] H Φ = Φ (.bool (!numOk x)) H := by
  have : CallsA Try.prog 100 #[.int .i64 x] H fun r H' => r = .bool (!numOk x) ∧ H' = H := by
    refine w100 ?_
    unfold k100
    simp -implicitDefEqProofs only [kz, kk0, kk1, kk2, kk3, ↓two_true, ↓two_false, oS_some, oM_some, mkv, aggAt, Nat.reduceLeDiff, Nat.reduceSub, Nat.reduceMul, implies_true, Nat.reduceEqDiff, reduceIte, Nat.reduceAdd, Nat.reduceBEq, reduceCtorEq, implNumOk_eq]
  exact this.eq0

set_option maxHeartbeats 4000000 in
theorem implNumsOk_ok {H : AH} {v : Value} {l : List Int} (hv : IntRow H v l) (hl : l.length < 4611686018427387904) : CallsA Try.prog 85 #[v] H fun r H' => r = .bool (numsOk l) ∧ H' = H := by
  have ec := fun Φ => (containsFuncI_ok (H := H) hv hl (fun x H Φ => numsOk1_eq)).eq0 (Φ := Φ)
  obtain ⟨a, c, rfl, _⟩ := hv.op
  refine w85 ?_
  unfold k85
  simp -implicitDefEqProofs only [kz, kk0, kk1, kk2, kk3, ↓two_true, ↓two_false, oS_some, oM_some, mkv, aggAt, Nat.reduceLeDiff, Nat.reduceSub, Nat.reduceMul, implies_true, Nat.reduceEqDiff, reduceIte, Nat.reduceAdd, Nat.reduceBEq, reduceCtorEq, ln64, ec, within_eq]
  unfold numsOk
  refine two_intro (fun h => ?_) (fun h => ?_)
  · rw [h, any_not]; simp
  · rw [h]; rfl
theorem implNumsOk_eq {H : AH} {v : Value} (hv : OkI H v) (hl : (rowI H v).length < 4611686018427387904) {Φ : Value → AH → Prop} : CallsA Try.prog 85 #[v] H Φ = Φ (.bool (numsOk (rowI H v))) H := (implNumsOk_ok hv hl).eq0

end Go.Proofs.Ytdagncfnkenbfaa.AM
