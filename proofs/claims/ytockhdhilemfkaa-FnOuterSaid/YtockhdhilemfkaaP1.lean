/- What the functions answer, part 1. -/
import Derived.Test.YtockhdhilemfkaaK1
set_option linter.unusedVariables false
set_option linter.unusedSimpArgs false
set_option linter.defProp false
set_option maxRecDepth 100000
/- What the functions answer, part 1. -/
namespace Go.Proofs.Ytockhdhilemfkaa.AM
open Go Go.Proofs.Ytockhdhilemfkaa Go.Proofs
theorem RpA.cons {P : Program} {H : AH} {t : TypeId} {ts : List TypeId} {vs : List Value} (h : RpA P H (t :: ts) vs) : ∃ v vs', vs = v :: vs' ∧ RpV P H t v ∧ RpA P H ts vs' := by
  cases vs with
  | nil => exact h.elim
  | cons v vs => exact ⟨v, vs, rfl, h.1, h.2⟩
theorem RpA.nil {P : Program} {H : AH} {vs : List Value} (h : RpA P H [] vs) : vs = [] := by
  cases vs with
  | nil => rfl
  | cons v vs => exact h.elim
theorem Rp.int {P : Program} {H : AH} {k : Nat} {t : TypeId} {q : IntKind} {vs : List Value} (hu : P.underlying t = some (.int q)) (h : Rp P H k t vs) : ∃ n, vs = [.int q n] ∧ (Lit.int q n).wf = true := by
  cases k with
  | zero => exact h.elim
  | succ k => simpa only [Rp, hu] using h
theorem bs_size {a : Array UInt8} : (ByteArray.mk a).size = a.size := rfl
/-- Bounds of an int. -/
def I64 (n : Int) : Prop := -9223372036854775808 ≤ n ∧ n ≤ 9223372036854775807
theorem wf_i64 {n : Int} (h : (Lit.int .i64 n).wf = true) : I64 n := by
  simp [Lit.wf, IntKind.min, IntKind.max, IntKind.bits, IntKind.signed] at h
  exact ⟨by omega, by omega⟩

def sg2 (s : Int) : Bool := s == 43 || s == 45 || s == 42 || s == 37 || s == 124 || s == 38 || s == 94 || s == 61 || s == 60 || s == 62
def hasS (l : ByteArray) (s : Int) : Bool := (List.range l.size).any fun i => s == byt l i
theorem hasS_true {l : ByteArray} {s : Int} : hasS l s = true ↔ ∃ i, i < l.size ∧ byt l i = s := by
  simp only [hasS, List.any_eq_true, List.mem_range, beq_iff_eq]
  exact ⟨fun ⟨i, h1, h2⟩ => ⟨i, h1, h2.symm⟩, fun ⟨i, h1, h2⟩ => ⟨i, h1, h2.symm⟩⟩
theorem hasS_2 {s : Int} : hasS ⟨#[43, 45, 42, 37, 124, 38, 94, 61, 60, 62]⟩ s = sg2 s := by
  show ((s == 43) || ((s == 45) || ((s == 42) || ((s == 37) || ((s == 124) || ((s == 38) || ((s == 94) || ((s == 61) || ((s == 60) || ((s == 62) || false)))))))))) = _
  simp [sg2, Bool.or_assoc]
def inB (x a b : Int) : Bool := decide (a ≤ x) && decide (x ≤ b)
theorem inB_true {x a b : Int} : inB x a b = true ↔ a ≤ x ∧ x ≤ b := by simp [inB]
def numOk (x : Int) : Bool := inB x (-1000000000000) 1000000000000

theorem l1Sign2_ok (s : Int) (H : AH) : CallsA Try.prog 123 #[.int .i64 s] H fun r H' => r = .bool (sg2 s) ∧ H' = H := by
  refine w123 ?_
  unfold k123 sg2
  simp -implicitDefEqProofs only [kz, kk0, kk1, kk2, kk3, ↓two_true, ↓two_false, oS_some, oM_some, mkv, aggAt, Nat.reduceLeDiff, Nat.reduceSub, Nat.reduceMul, implies_true, Nat.reduceEqDiff, reduceIte, Nat.reduceAdd, Nat.reduceBEq, reduceCtorEq]
  simp +contextual [two]
theorem l1Sign2_eq {s : Int} {H : AH} {Φ : Value → AH → Prop} : CallsA Try.prog 123 #[.int .i64 s] H Φ = Φ (.bool (sg2 s)) H := (l1Sign2_ok s H).eq0

theorem hasSign_ok (l : ByteArray) (s : Int) (H : AH) (hl : l.size < 9223372036854775807) : CallsA Try.prog 148 #[.string l, .int .i64 s] H fun r H' => r = .bool (hasS l s) ∧ H' = H := by
  refine w148 ?_
  unfold k148
  simp -implicitDefEqProofs only [kz, kk0, kk1, kk2, kk3, ↓two_true, ↓two_false, oS_some, oM_some, mkv, aggAt, Nat.reduceLeDiff, Nat.reduceSub, Nat.reduceMul, implies_true, Nat.reduceEqDiff, reduceIte, Nat.reduceAdd, Nat.reduceBEq, reduceCtorEq, cv5_3, (idx_str us9), ln9]
  refine rW_loop (σ := Nat) (fun i tm H' => tm 0 = .string l ∧ tm 1 = .int .i64 s ∧ tm 5 = .int .i64 i ∧ H' = H ∧ i ≤ l.size ∧ ∀ j, j < i → byt l j ≠ s) (fun i => l.size - i) 0 ?_ ?_
  · simp -implicitDefEqProofs [kk0, kk1, kk2, kk3, rW_block, ↓two_true, ↓two_false, rW_cond, rO_guard, oS_some, oM_some, mkv, aggAt, Nat.reduceLeDiff, Nat.reduceSub, Nat.reduceMul, cond_true, cond_false, Option.bind_some, List.length_append, List.length_cons, List.length_nil, List.append_assoc, List.cons_append, List.nil_append, List.set_cons_zero, List.set_cons_succ, List.size_toArray, List.all_cons, List.all_nil, List.drop_zero, List.drop_succ_cons, List.take_succ_cons, List.take_zero, List.mem_cons, Prod.mk.injEq, List.not_mem_nil, implies_true, List.getElem?_toArray, List.getElem?_cons_zero, List.getElem?_cons_succ, List.getElem?_nil, Option.getD_some, Option.getD_none, Nat.reduceEqDiff, reduceIte, Nat.reduceAdd, List.map_toArray, List.map_cons, List.map_nil, Bool.false_eq_true, Nat.reduceBEq, Option.map_some, Option.map_none, reduceCtorEq, cv5_3, (idx_str us9), ln9]
  · rintro i tm H' ⟨h0, h1, h5, rfl, hi, hn⟩
    simp -implicitDefEqProofs only [kz, kk0, kk1, kk2, kk3, ↓two_true, ↓two_false, oS_some, oM_some, mkv, aggAt, Nat.reduceLeDiff, Nat.reduceSub, Nat.reduceMul, implies_true, Nat.reduceEqDiff, reduceIte, Nat.reduceAdd, Nat.reduceBEq, reduceCtorEq, cv5_3, (idx_str us9), ln9, h0, h1, h5]
    refine two_intro (fun hc => ?_) (fun hc => ?_)
    · have hc' : i < l.size := by simpa using hc
      have hb := byt_range l i
      rw [IntWalk.i64_in (↑i + 1) (by omega)]
      simp only [Int.toNat_natCast]
      rw [IntWalk.i64_in (byt l i) (by omega)]
      refine ⟨⟨by omega, by omega⟩, two_intro (fun h => ?_) (fun h => ?_)⟩
      · rw [hasS_true.2 ⟨i, hc', by simpa using h⟩]
      · refine ⟨i + 1, by omega, by simp, hc', fun j hj => ?_⟩
        rcases Nat.lt_or_ge j i with h1 | h1
        · exact hn j h1
        · have : j = i := by omega
          subst this
          simpa using h
    · have hc' : ¬ i < l.size := by simpa using hc
      have : hasS l s = false := by
        rw [← Bool.not_eq_true, hasS_true]
        rintro ⟨j, h1, h2⟩
        exact hn j (by omega) h2
      rw [this]
theorem hasSign_eq {l : ByteArray} {s : Int} {H : AH} (hl : l.size < 9223372036854775807) {Φ : Value → AH → Prop} : CallsA Try.prog 148 #[.string l, .int .i64 s] H Φ = Φ (.bool (hasS l s)) H := (hasSign_ok l s H hl).eq0

theorem twoSign_ok (s : Int) (H : AH) : CallsA Try.prog 77 #[.int .i64 s] H fun r H' => r = .bool (sg2 s) ∧ H' = H := by
  refine w77 ?_
  unfold k77
  simp -implicitDefEqProofs only [kz, kk0, kk1, kk2, kk3, ↓two_true, ↓two_false, oS_some, oM_some, mkv, aggAt, Nat.reduceLeDiff, Nat.reduceSub, Nat.reduceMul, implies_true, Nat.reduceEqDiff, reduceIte, Nat.reduceAdd, Nat.reduceBEq, reduceCtorEq, hasSign_eq, bs_size, Nat.reduceLT, hasS_2]
theorem twoSign_eq {s : Int} {H : AH} {Φ : Value → AH → Prop} : CallsA Try.prog 77 #[.int .i64 s] H Φ = Φ (.bool (sg2 s)) H := (twoSign_ok s H).eq0

theorem l1In_ok (x a b : Int) (H : AH) : CallsA Try.prog 150 #[.int .i64 x, .int .i64 a, .int .i64 b] H fun r H' => r = .bool (inB x a b) ∧ H' = H := by
  refine w150 ?_
  unfold k150 inB
  simp -implicitDefEqProofs only [kz, kk0, kk1, kk2, kk3, ↓two_true, ↓two_false, oS_some, oM_some, mkv, aggAt, Nat.reduceLeDiff, Nat.reduceSub, Nat.reduceMul, implies_true, Nat.reduceEqDiff, reduceIte, Nat.reduceAdd, Nat.reduceBEq, reduceCtorEq]
  simp +contextual [two]
  omega
theorem l1In_eq {x a b : Int} {H : AH} {Φ : Value → AH → Prop} : CallsA Try.prog 150 #[.int .i64 x, .int .i64 a, .int .i64 b] H Φ = Φ (.bool (inB x a b)) H := (l1In_ok x a b H).eq0

theorem within_ok (x a b : Int) (H : AH) : CallsA Try.prog 91 #[.int .i64 x, .int .i64 a, .int .i64 b] H fun r H' => r = .bool (inB x a b) ∧ H' = H := by
  refine w91 ?_
  unfold k91 inB
  simp -implicitDefEqProofs only [kz, kk0, kk1, kk2, kk3, ↓two_true, ↓two_false, oS_some, oM_some, mkv, aggAt, Nat.reduceLeDiff, Nat.reduceSub, Nat.reduceMul, implies_true, Nat.reduceEqDiff, reduceIte, Nat.reduceAdd, Nat.reduceBEq, reduceCtorEq]
  simp +contextual [two]
  omega
theorem within_eq {x a b : Int} {H : AH} {Φ : Value → AH → Prop} : CallsA Try.prog 91 #[.int .i64 x, .int .i64 a, .int .i64 b] H Φ = Φ (.bool (inB x a b)) H := (within_ok x a b H).eq0

theorem specNumOk_ok (x : Int) (H : AH) : CallsA Try.prog 137 #[.int .i64 x] H fun r H' => r = .bool (numOk x) ∧ H' = H := by
  refine w137 ?_
  unfold k137 numOk
  simp -implicitDefEqProofs only [kz, kk0, kk1, kk2, kk3, ↓two_true, ↓two_false, oS_some, oM_some, mkv, aggAt, Nat.reduceLeDiff, Nat.reduceSub, Nat.reduceMul, implies_true, Nat.reduceEqDiff, reduceIte, Nat.reduceAdd, Nat.reduceBEq, reduceCtorEq, l1In_eq]
theorem specNumOk_eq {x : Int} {H : AH} {Φ : Value → AH → Prop} : CallsA Try.prog 137 #[.int .i64 x] H Φ = Φ (.bool (numOk x)) H := (specNumOk_ok x H).eq0

theorem implNumOk_ok (x : Int) (H : AH) : CallsA Try.prog 87 #[.int .i64 x] H fun r H' => r = .bool (numOk x) ∧ H' = H := by
  refine w87 ?_
  unfold k87 numOk
  simp -implicitDefEqProofs only [kz, kk0, kk1, kk2, kk3, ↓two_true, ↓two_false, oS_some, oM_some, mkv, aggAt, Nat.reduceLeDiff, Nat.reduceSub, Nat.reduceMul, implies_true, Nat.reduceEqDiff, reduceIte, Nat.reduceAdd, Nat.reduceBEq, reduceCtorEq, within_eq]
theorem implNumOk_eq {x : Int} {H : AH} {Φ : Value → AH → Prop} : CallsA Try.prog 87 #[.int .i64 x] H Φ = Φ (.bool (numOk x)) H := (implNumOk_ok x H).eq0

theorem truth_eq {b : Bool} {H : AH} {Φ : Value → AH → Prop} : CallsA Try.prog 127 #[.bool b] H Φ = Φ (.int .i64 (if b = true then 1 else 0)) H := by
  have : CallsA Try.prog 127 #[.bool b] H fun r H' => r = .int .i64 (if b = true then 1 else 0) ∧ H' = H := by
    refine w127 ?_
    unfold k127
    simp -implicitDefEqProofs only [kz, kk0, kk1, kk2, kk3, ↓two_true, ↓two_false, oS_some, oM_some, mkv, aggAt, Nat.reduceLeDiff, Nat.reduceSub, Nat.reduceMul, implies_true, Nat.reduceEqDiff, reduceIte, Nat.reduceAdd, Nat.reduceBEq, reduceCtorEq]
    cases b <;> simp [two]
  exact this.eq0

theorem l1Bit_eq {b : Bool} {H : AH} {Φ : Value → AH → Prop} : CallsA Try.prog 169 #[.bool b] H Φ = Φ (.int .i64 (if b = true then 1 else 0)) H := by
  have : CallsA Try.prog 169 #[.bool b] H fun r H' => r = .int .i64 (if b = true then 1 else 0) ∧ H' = H := by
    refine w169 ?_
    unfold k169
    simp -implicitDefEqProofs only [kz, kk0, kk1, kk2, kk3, ↓two_true, ↓two_false, oS_some, oM_some, mkv, aggAt, Nat.reduceLeDiff, Nat.reduceSub, Nat.reduceMul, implies_true, Nat.reduceEqDiff, reduceIte, Nat.reduceAdd, Nat.reduceBEq, reduceCtorEq]
    cases b <;> simp [two]
  exact this.eq0

theorem l1Min_eq {a b : Int} {H : AH} {Φ : Value → AH → Prop} : CallsA Try.prog 167 #[.int .i64 a, .int .i64 b] H Φ = Φ (.int .i64 (if a < b then a else b)) H := by
  have : CallsA Try.prog 167 #[.int .i64 a, .int .i64 b] H fun r H' => r = .int .i64 (if a < b then a else b) ∧ H' = H := by
    refine w167 ?_
    unfold k167
    simp -implicitDefEqProofs only [kz, kk0, kk1, kk2, kk3, ↓two_true, ↓two_false, oS_some, oM_some, mkv, aggAt, Nat.reduceLeDiff, Nat.reduceSub, Nat.reduceMul, implies_true, Nat.reduceEqDiff, reduceIte, Nat.reduceAdd, Nat.reduceBEq, reduceCtorEq]
    refine two_intro (fun h => ?_) (fun h => ?_)
    · rw [if_pos (by simpa using h)]
    · rw [if_neg (by simpa using h)]
  exact this.eq0

theorem l1Max_eq {a b : Int} {H : AH} {Φ : Value → AH → Prop} : CallsA Try.prog 168 #[.int .i64 a, .int .i64 b] H Φ = Φ (.int .i64 (if a > b then a else b)) H := by
  have : CallsA Try.prog 168 #[.int .i64 a, .int .i64 b] H fun r H' => r = .int .i64 (if a > b then a else b) ∧ H' = H := by
    refine w168 ?_
    unfold k168
    simp -implicitDefEqProofs only [kz, kk0, kk1, kk2, kk3, ↓two_true, ↓two_false, oS_some, oM_some, mkv, aggAt, Nat.reduceLeDiff, Nat.reduceSub, Nat.reduceMul, implies_true, Nat.reduceEqDiff, reduceIte, Nat.reduceAdd, Nat.reduceBEq, reduceCtorEq]
    refine two_intro (fun h => ?_) (fun h => ?_)
    · rw [if_pos (by simpa using h)]
    · rw [if_neg (by simpa using h)]
  exact this.eq0

def ints (l : List Int) : List Value := l.map (.int .i64)
theorem ints_get {l : List Int} {i : Nat} (h : i < l.length) : (ints l)[i]? = some (.int .i64 l[i]) := by simp [ints, h]
/-- A slice of ints that may be read. -/
def IntRow (H : AH) (v : Value) (l : List Int) : Prop :=
  (v = .slice none 0 0 ∧ l = []) ∨ ∃ b o cs, v = .slice (some ⟨b, o, none⟩) l.length 1 ∧ rd H b = some cs ∧ o + l.length ≤ cs.length ∧ (cs.drop o).take l.length = ints l
def toI : Value → Int | .int _ n => n | _ => 0
def rowI (H : AH) : Value → List Int
  | .slice (some ⟨b, o, _⟩) n _ => ((((rd H b).getD []).drop o).take n).map toI
  | _ => []
def OkI (H : AH) (v : Value) : Prop := IntRow H v (rowI H v)
theorem IntRow.row {H : AH} {v : Value} {l : List Int} (h : IntRow H v l) : rowI H v = l := by
  rcases h with ⟨rfl, rfl⟩ | ⟨b, o, cs, rfl, h1, _, h2⟩
  · rfl
  · simp only [rowI, h1, Option.getD_some, h2, ints, List.map_map]
    have : (toI ∘ Value.int IntKind.i64) = id := by funext n; rfl
    rw [this, List.map_id]
theorem IntRow.ok {H : AH} {v : Value} {l : List Int} (h : IntRow H v l) : OkI H v := by
  unfold OkI; rw [h.row]; exact h
theorem IntRow.same {H H' : AH} {v : Value} {l : List Int} (h : IntRow H v l) (hs : ∀ b o n c, v = .slice (some ⟨b, o, none⟩) n c → rd H' b = rd H b) : IntRow H' v l := by
  rcases h with h | ⟨b, o, cs, h1, h2, h3, h4⟩
  · exact .inl h
  · exact .inr ⟨b, o, cs, h1, by rw [hs _ _ _ _ h1]; exact h2, h3, h4⟩
theorem IntRow.mono {H L : AH} {v : Value} {l : List Int} (h : IntRow H v l) : IntRow (H ++ L) v l := by
  rcases h with h | ⟨b, o, cs, h1, h2, h3, h4⟩
  · exact .inl h
  · exact .inr ⟨b, o, cs, h1, by rw [rdl (by simp [h2]), h2], h3, h4⟩
theorem OkI.mono {H L : AH} {v : Value} (h : OkI H v) : OkI (H ++ L) v := (IntRow.mono h).ok
theorem rowI_mono {H L : AH} {v : Value} (h : OkI H v) : rowI (H ++ L) v = rowI H v := (IntRow.mono h).row
theorem IntRow.op {H : AH} {v : Value} {l : List Int} (h : IntRow H v l) : ∃ a c, v = .slice a l.length c ∧ (0 < l.length → ∃ b o cs, a = some ⟨b, o, none⟩ ∧ c = 1 ∧ rd H b = some cs ∧ o + l.length ≤ cs.length ∧ ∀ i (hi : i < l.length), cs[o + i]? = some (.int .i64 l[i])) := by
  rcases h with ⟨rfl, rfl⟩ | ⟨b, o, cs, rfl, h1, h2, h3⟩
  · exact ⟨none, 0, rfl, fun h => by simp at h⟩
  · refine ⟨_, _, rfl, fun _ => ⟨b, o, cs, rfl, rfl, h1, h2, fun i hi => ?_⟩⟩
    have := ints_get hi
    rw [← h3, List.getElem?_take_of_lt hi, List.getElem?_drop] at this
    exact this
theorem OkI.nil {H : AH} : OkI H (.slice none 0 0) := .inl ⟨rfl, rfl⟩
def OwnRow (H : AH) (v : Value) (l : List Int) : Prop :=
  (v = .slice none 0 0 ∧ l = []) ∨ ∃ b o cs, v = .slice (some ⟨b, o, none⟩) l.length 1 ∧ H[b]? = some ⟨cs, .own⟩ ∧ o + l.length ≤ cs.length ∧ (cs.drop o).take l.length = ints l
theorem rd_own {H : AH} {b : Nat} {cs : List Value} (h : H[b]? = some ⟨cs, .own⟩) : rd H b = some cs := by simp [rd, h, rdB]
theorem wrt_own {H : AH} {b : Nat} {cs : List Value} (h : H[b]? = some ⟨cs, .own⟩) : wrt H b = some cs := by simp [wrt, h, wrB]
theorem OwnRow.int {H : AH} {v : Value} {l : List Int} (h : OwnRow H v l) : IntRow H v l := by
  rcases h with h | ⟨b, o, cs, h1, h2, h3, h4⟩
  · exact .inl h
  · exact .inr ⟨b, o, cs, h1, rd_own h2, h3, h4⟩
def mks (k : Int) (n : Nat) : List Int := (List.range n).map fun (i : Nat) => k + (i : Int)
theorem mks_len {k : Int} {n : Nat} : (mks k n).length = n := by simp [mks]
/-- The heap with other numbers in a row. -/
def putI (H : AH) (v : Value) (xs : List Int) : AH :=
  match v with
  | .slice (some ⟨b, o, _⟩) _ _ => H.set b ⟨splice ((wrt H b).getD []) o (ints xs), .own⟩
  | _ => H
def blkOf : Value → Option Nat
  | .slice (some ⟨b, _, _⟩) _ _ => some b
  | _ => none
theorem putI_len {H : AH} {v : Value} {xs : List Int} : (putI H v xs).length = H.length := by
  unfold putI; split <;> simp
theorem putI_get {H : AH} {v : Value} {xs : List Int} {b : Nat} (h : blkOf v ≠ some b) : (putI H v xs)[b]? = H[b]? := by
  unfold putI
  split
  · simp only [blkOf, ne_eq, Option.some.injEq] at h
    rw [List.getElem?_set_ne h]
  · rfl
theorem splice_take {xs cs : List Value} {o : Nat} (h : o + xs.length ≤ cs.length) : ((splice cs o xs).drop o).take xs.length = xs := by
  refine List.ext_getElem? fun i => ?_
  rcases Nat.lt_or_ge i xs.length with h1 | h1
  · rw [List.getElem?_take_of_lt h1, List.getElem?_drop, splice_get xs cs o (o + i) h, if_pos (by omega), Nat.add_sub_cancel_left]
  · rw [List.getElem?_eq_none (by simp; omega), List.getElem?_eq_none (by omega)]
theorem OwnRow.put {H : AH} {v : Value} {l xs : List Int} (h : OwnRow H v l) (hx : xs.length = l.length) : OwnRow (putI H v xs) v xs := by
  rcases h with ⟨rfl, rfl⟩ | ⟨b, o, cs, rfl, h2, h3, h4⟩
  · exact .inl ⟨rfl, by cases xs <;> simp_all⟩
  · refine .inr ⟨b, o, splice cs o (ints xs), by rw [hx], ?_, ?_, ?_⟩
    · have hlt := (List.getElem?_eq_some_iff.1 h2).1
      simp only [putI, wrt_own h2, Option.getD_some]
      rw [List.getElem?_set_self hlt]
    · rw [splice_length]; omega
    · have := splice_take (xs := ints xs) (cs := cs) (o := o) (by simp [ints]; omega)
      rw [show (ints xs).length = xs.length by simp [ints]] at this
      exact this
theorem OwnRow.other {H : AH} {v w : Value} {l xs : List Int} (h : OwnRow H v l) (hb : blkOf v = none ∨ blkOf w ≠ blkOf v) : OwnRow (putI H w xs) v l := by
  rcases h with h | ⟨b, o, cs, rfl, h2, h3, h4⟩
  · exact .inl h
  · refine .inr ⟨b, o, cs, rfl, ?_, h3, h4⟩
    rw [putI_get]
    · exact h2
    · rcases hb with hb | hb
      · simp [blkOf] at hb
      · simpa [blkOf] using hb
theorem OwnRow.mono {H L : AH} {v : Value} {l : List Int} (h : OwnRow H v l) : OwnRow (H ++ L) v l := by
  rcases h with h | ⟨b, o, cs, h1, h2, h3, h4⟩
  · exact .inl h
  · exact .inr ⟨b, o, cs, h1, gtl h2, h3, h4⟩
theorem list_set_set {α : Type} {l : List α} {i : Nat} {a b : α} : (l.set i a).set i b = l.set i b := by simp
/-- A slice of elements of 's' cells each, that may be read. -/
def SRow (H : AH) (v : Value) (s : Nat) (xs : List (List Value)) : Prop :=
  (v = .slice none 0 0 ∧ xs = []) ∨ ∃ b o cs, v = .slice (some ⟨b, o, none⟩) xs.length s ∧ rd H b = some cs ∧ o + xs.length * s ≤ cs.length ∧ ∀ (i : Nat) x, xs[i]? = some x → x.length = s ∧ ∀ (j : Nat) y, x[j]? = some y → cs[o + i * s + j]? = some y
def SOwn (H : AH) (v : Value) (s : Nat) (xs : List (List Value)) : Prop :=
  (v = .slice none 0 0 ∧ xs = []) ∨ ∃ b o cs, v = .slice (some ⟨b, o, none⟩) xs.length s ∧ H[b]? = some ⟨cs, .own⟩ ∧ o + xs.length * s ≤ cs.length ∧ ∀ (i : Nat) x, xs[i]? = some x → x.length = s ∧ ∀ (j : Nat) y, x[j]? = some y → cs[o + i * s + j]? = some y
theorem SOwn.row {H : AH} {v : Value} {s : Nat} {xs : List (List Value)} (h : SOwn H v s xs) : SRow H v s xs := by
  rcases h with h | ⟨b, o, cs, h1, h2, h3, h4⟩
  · exact .inl h
  · exact .inr ⟨b, o, cs, h1, rd_own h2, h3, h4⟩
theorem SRow.same {H H' : AH} {v : Value} {s : Nat} {xs : List (List Value)} (h : SRow H v s xs) (hs : ∀ b, blkOf v = some b → rd H' b = rd H b) : SRow H' v s xs := by
  rcases h with h | ⟨b, o, cs, h1, h2, h3, h4⟩
  · exact .inl h
  · exact .inr ⟨b, o, cs, h1, by rw [hs b (by rw [h1]; rfl)]; exact h2, h3, h4⟩
theorem SRow.mono {H L : AH} {v : Value} {s : Nat} {xs : List (List Value)} (h : SRow H v s xs) : SRow (H ++ L) v s xs := by
  rcases h with h | ⟨b, o, cs, h1, h2, h3, h4⟩
  · exact .inl h
  · exact .inr ⟨b, o, cs, h1, by rw [rdl (by simp [h2]), h2], h3, h4⟩
theorem SOwn.mono {H L : AH} {v : Value} {s : Nat} {xs : List (List Value)} (h : SOwn H v s xs) : SOwn (H ++ L) v s xs := by
  rcases h with h | ⟨b, o, cs, h1, h2, h3, h4⟩
  · exact .inl h
  · exact .inr ⟨b, o, cs, h1, gtl h2, h3, h4⟩
theorem SOwn.same {H H' : AH} {v : Value} {s : Nat} {xs : List (List Value)} (h : SOwn H v s xs) (hs : ∀ b, blkOf v = some b → H'[b]? = H[b]?) : SOwn H' v s xs := by
  rcases h with h | ⟨b, o, cs, h1, h2, h3, h4⟩
  · exact .inl h
  · exact .inr ⟨b, o, cs, h1, by rw [hs b (by rw [h1]; rfl)]; exact h2, h3, h4⟩
theorem row_idx {s i j i' j' : Nat} (h1 : j < s) (h2 : j' < s) (h : i * s + j = i' * s + j') : i = i' ∧ j = j' := by
  have hs : 0 < s := by omega
  have e1 : (i * s + j) / s = i := by rw [Nat.mul_comm, Nat.mul_add_div hs, Nat.div_eq_of_lt h1, Nat.add_zero]
  have e2 : (i' * s + j') / s = i' := by rw [Nat.mul_comm, Nat.mul_add_div hs, Nat.div_eq_of_lt h2, Nat.add_zero]
  have : i = i' := by rw [← e1, ← e2, h]
  subst this
  exact ⟨rfl, by omega⟩
theorem row_lt {s i n : Nat} (h : i < n) : i * s + s ≤ n * s := by
  have : (i + 1) * s ≤ n * s := Nat.mul_le_mul_right s h
  rw [Nat.add_mul, Nat.one_mul] at this
  exact this
theorem SRow.op {H : AH} {v : Value} {s : Nat} {xs : List (List Value)} (h : SRow H v s xs) : ∃ a c, v = .slice a xs.length c ∧ (0 < xs.length → ∃ b o cs, a = some ⟨b, o, none⟩ ∧ c = s ∧ rd H b = some cs ∧ o + xs.length * s ≤ cs.length ∧ ∀ (i : Nat) x, xs[i]? = some x → x.length = s ∧ ∀ (j : Nat) y, x[j]? = some y → cs[o + i * s + j]? = some y) := by
  rcases h with ⟨rfl, rfl⟩ | ⟨b, o, cs, rfl, h1, h2, h3⟩
  · exact ⟨none, 0, rfl, fun h => by simp at h⟩
  · exact ⟨_, _, rfl, fun _ => ⟨b, o, cs, rfl, rfl, h1, h2, h3⟩⟩
/-- A whole element. -/
theorem aggAt_row {cs x : List Value} {o s : Nat} (hx : x.length = s) (hlen : o + s ≤ cs.length) (h : ∀ (j : Nat) y, x[j]? = some y → cs[o + j]? = some y) : aggAt s o cs = some (.agg x.toArray) := by
  unfold aggAt
  rw [if_pos hlen]
  have : (cs.drop o).take s = x := by
    refine List.ext_getElem? fun j => ?_
    rcases Nat.lt_or_ge j s with h1 | h1
    · rw [List.getElem?_take_of_lt h1, List.getElem?_drop, h j _ (List.getElem?_eq_getElem (by omega))]
      exact (List.getElem?_eq_getElem (by omega)).symm
    · rw [List.getElem?_eq_none (by simp; omega), List.getElem?_eq_none (by omega)]
  rw [this]
/-- A cell of an element is written. -/
theorem SOwn.set {H : AH} {b o s : Nat} {cs : List Value} {xs : List (List Value)} {i j : Nat} {x : List Value} {y : Value} (hb : H[b]? = some ⟨cs, .own⟩) (hlen : o + xs.length * s ≤ cs.length)
    (hc : ∀ (i : Nat) x, xs[i]? = some x → x.length = s ∧ ∀ (j : Nat) y, x[j]? = some y → cs[o + i * s + j]? = some y) (hx : xs[i]? = some x) (hj : j < s) :
    SOwn (H.set b ⟨cs.set (o + i * s + j) y, .own⟩) (.slice (some ⟨b, o, none⟩) xs.length s) s (xs.set i (x.set j y)) := by
  have hbl : b < H.length := (List.getElem?_eq_some_iff.1 hb).1
  have hil : i < xs.length := (List.getElem?_eq_some_iff.1 hx).1
  refine .inr ⟨b, o, _, by simp, List.getElem?_set_self hbl, by simpa using hlen, ?_⟩
  intro i' x' hx'
  rw [List.getElem?_set] at hx'
  by_cases e : i = i'
  · subst e
    rw [if_pos rfl, if_pos hil] at hx'
    cases hx'
    have h0 := hc i x hx
    refine ⟨by simpa using h0.1, fun j' y' hy => ?_⟩
    rw [List.getElem?_set] at hy ⊢
    by_cases e2 : j = j'
    · subst e2
      rw [if_pos rfl, if_pos (by omega)] at hy
      cases hy
      have := row_lt (s := s) hil
      rw [if_pos rfl, if_pos (by omega)]
    · rw [if_neg e2] at hy
      rw [if_neg (by omega)]
      exact h0.2 j' y' hy
  · rw [if_neg e] at hx'
    have h0 := hc i' x' hx'
    refine ⟨h0.1, fun j' y' hy => ?_⟩
    have hj' : j' < s := by rw [← h0.1]; exact (List.getElem?_eq_some_iff.1 hy).1
    rw [List.getElem?_set, if_neg (fun h => e (row_idx hj hj' (by omega)).1)]
    exact h0.2 j' y' hy
/-- Vars, as cells: each letter's flag and its array's two rows. -/
abbrev VR3 := Bool × Value × Value
def OkV (H : AH) (x : VR3) : Prop := OkI H x.2.1 ∧ OkI H x.2.2 ∧ (rowI H x.2.1).length < 4611686018427387904 ∧ (rowI H x.2.2).length < 4611686018427387904
theorem OkV.mono {H L : AH} {x : VR3} (h : OkV H x) : OkV (H ++ L) x := ⟨h.1.mono, h.2.1.mono, by rw [rowI_mono h.1]; exact h.2.2.1, by rw [rowI_mono h.2.1]; exact h.2.2.2⟩
def Dj (v w : Value) : Prop := ∀ b, blkOf v = some b → blkOf w ≠ some b
theorem Dj.symm {v w : Value} (h : Dj v w) : Dj w v := fun b h1 h2 => h b h2 h1
theorem OwnRow.same {H H' : AH} {v : Value} {l : List Int} (h : OwnRow H v l) (hs : ∀ b, blkOf v = some b → H'[b]? = H[b]?) : OwnRow H' v l := by
  rcases h with h | ⟨b, o, cs, h1, h2, h3, h4⟩
  · exact .inl h
  · exact .inr ⟨b, o, cs, h1, by rw [hs b (by rw [h1]; rfl)]; exact h2, h3, h4⟩
theorem OwnRow.rowI {H : AH} {v : Value} {l : List Int} (h : OwnRow H v l) : rowI H v = l := h.int.row
theorem putI_dj {H : AH} {v w : Value} {l : List Int} (h : Dj v w) : ∀ b, blkOf w = some b → (putI H v l)[b]? = H[b]? := fun b hb => putI_get fun h2 => h b h2 hb
theorem OwnRow.isSlice {H : AH} {v : Value} {l : List Int} (h : OwnRow H v l) : ∃ a c, v = .slice a l.length c := by
  obtain ⟨a, c, h1, _⟩ := h.int.op
  exact ⟨a, c, h1⟩
inductive CV where
  | i (n : Int)
  | b (x : Bool)
  | r (l : List Int)
  deriving DecidableEq
inductive CK where
  | i
  | b
  | r
  | w
def cv (H : AH) : Value → CV
  | .int _ n => .i n
  | .bool x => .b x
  | v => .r (rowI H v)
def KOk (H : AH) : CK → Value → Prop
  | .i, y => ∃ n, y = .int .i64 n
  | .b, y => ∃ x, y = .bool x
  | .r, y => OkI H y ∧ (rowI H y).length < 1073741825
  | .w, y => OkI H y ∧ (rowI H y).length ≤ 9223372036854775807
def All2 (H : AH) : List CK → List Value → Prop
  | [], x => x = []
  | k :: ks, x => ∃ y r, x = y :: r ∧ KOk H k y ∧ All2 H ks r
theorem OkI.slice {H : AH} {y : Value} (h : OkI H y) : ∃ a c, y = .slice a (rowI H y).length c := by
  obtain ⟨a, c, e, _⟩ := IntRow.op h
  exact ⟨a, c, e⟩
theorem cv_row {H : AH} {y : Value} (h : OkI H y) : cv H y = .r (rowI H y) := by
  obtain ⟨a, c, e⟩ := h.slice
  rw [e]; rfl
theorem rowI_same {H H' : AH} {v : Value} (hs : ∀ b, blkOf v = some b → rd H' b = rd H b) : rowI H' v = rowI H v := by
  unfold rowI
  split
  · rename_i b o a n c
    rw [hs b rfl]
  · rfl
theorem OkI.same {H H' : AH} {v : Value} (h : OkI H v) (hs : ∀ b, blkOf v = some b → rd H' b = rd H b) : OkI H' v := (IntRow.same h fun b o n c e => hs b (by rw [e]; rfl)).ok
theorem cv_same {H H' : AH} {v : Value} (hs : ∀ b, blkOf v = some b → rd H' b = rd H b) : cv H' v = cv H v := by
  unfold cv
  split
  · rfl
  · rfl
  · rw [rowI_same hs]
theorem KOk.same {H H' : AH} {k : CK} {v : Value} (h : KOk H k v) (hs : ∀ b, blkOf v = some b → rd H' b = rd H b) : KOk H' k v := by
  cases k with
  | i => exact h
  | b => exact h
  | r => exact ⟨h.1.same hs, by rw [rowI_same hs]; exact h.2⟩
  | w => exact ⟨h.1.same hs, by rw [rowI_same hs]; exact h.2⟩
theorem KOk.rdable {H : AH} {k : CK} {v : Value} (h : KOk H k v) : ∀ b, blkOf v = some b → (rd H b).isSome = true := by
  intro b hb
  cases k with
  | i => obtain ⟨n, rfl⟩ := h; simp [blkOf] at hb
  | b => obtain ⟨n, rfl⟩ := h; simp [blkOf] at hb
  | r =>
    rcases h.1 with ⟨e, _⟩ | ⟨b', o, cs, e, h2, _⟩
    · rw [e] at hb; simp [blkOf] at hb
    · rw [e] at hb; simp [blkOf] at hb; subst hb; simp [h2]
  | w =>
    rcases h.1 with ⟨e, _⟩ | ⟨b', o, cs, e, h2, _⟩
    · rw [e] at hb; simp [blkOf] at hb
    · rw [e] at hb; simp [blkOf] at hb; subst hb; simp [h2]
theorem KOk.mono {H L : AH} {k : CK} {v : Value} (h : KOk H k v) : KOk (H ++ L) k v := h.same fun b hb => rdl (h.rdable b hb)
theorem cv_mono {H L : AH} {k : CK} {v : Value} (h : KOk H k v) : cv (H ++ L) v = cv H v := cv_same fun b hb => rdl (h.rdable b hb)
theorem All2.len {H : AH} : ∀ {ks : List CK} {x : List Value}, All2 H ks x → x.length = ks.length
  | [], x, h => by cases h; rfl
  | k :: ks, x, ⟨y, r, e, _, h⟩ => by rw [e, List.length_cons, h.len, List.length_cons]
theorem All2.get {H : AH} : ∀ {ks : List CK} {x : List Value}, All2 H ks x → ∀ (c : Nat) k y, ks[c]? = some k → x[c]? = some y → KOk H k y
  | [], x, h, c, k, y, hk, _ => by simp at hk
  | k :: ks, x, ⟨y, r, e, h1, h⟩, 0, k', y', hk, hy => by
    subst e; simp at hk hy; subst hk; subst hy; exact h1
  | k :: ks, x, ⟨y, r, e, h1, h⟩, c + 1, k', y', hk, hy => by
    subst e; simp at hk hy; exact h.get c k' y' hk hy
theorem All2.of {H : AH} : ∀ {ks : List CK} {x : List Value}, x.length = ks.length → (∀ (c : Nat) k y, ks[c]? = some k → x[c]? = some y → KOk H k y) → All2 H ks x
  | [], x, hl, _ => by
    cases x with
    | nil => rfl
    | cons y r => simp at hl
  | k :: ks, x, hl, h => by
    cases x with
    | nil => simp at hl
    | cons y r => exact ⟨y, r, rfl, h 0 k y rfl rfl, All2.of (by simpa using hl) fun c k' y' hk hy => h (c + 1) k' y' (by simpa using hk) (by simpa using hy)⟩
theorem All2.mono {H L : AH} {ks : List CK} {x : List Value} (h : All2 H ks x) : All2 (H ++ L) ks x := All2.of h.len fun c k y hk hy => (h.get c k y hk hy).mono
theorem All2.mapcv {H L : AH} {ks : List CK} {x : List Value} (h : All2 H ks x) : x.map (cv (H ++ L)) = x.map (cv H) := by
  refine List.map_congr_left fun y hy => ?_
  obtain ⟨c, hc, e⟩ := List.mem_iff_getElem.1 hy
  have hl := h.len
  exact cv_mono (h.get c ks[c] y (List.getElem?_eq_getElem (by omega)) (by rw [List.getElem?_eq_getElem hc, e]))
def cvs (H : AH) (xs : List Value) : List CV := xs.map (cv H)
/-- A slice of 'n' elements with cells of the kinds 'ks' each, that may be read; its cells are 'xs'. -/
structure FRow (H : AH) (v : Value) (ks : List CK) (n : Nat) (xs : List Value) : Prop where
  len : xs.length = n * ks.length
  row : (v = .slice none 0 0 ∧ n = 0) ∨ ∃ b o cs, v = .slice (some ⟨b, o, none⟩) n ks.length ∧ rd H b = some cs ∧ o + n * ks.length ≤ cs.length ∧ ∀ (j : Nat) y, xs[j]? = some y → cs[o + j]? = some y
  ok : ∀ (i c : Nat) k y, i < n → ks[c]? = some k → xs[i * ks.length + c]? = some y → KOk H k y
theorem FRow.cell {H : AH} {v : Value} {ks : List CK} {n : Nat} {xs : List Value} (h : FRow H v ks n xs) {j : Nat} {y : Value} (hy : xs[j]? = some y) : ∃ k, KOk H k y := by
  have hj := (List.getElem?_eq_some_iff.1 hy).1
  rw [h.len] at hj
  have hk : 0 < ks.length := by
    rcases Nat.eq_zero_or_pos ks.length with e | e
    · rw [e] at hj; omega
    · exact e
  have h1 : j / ks.length < n := Nat.div_lt_of_lt_mul (by rw [Nat.mul_comm]; exact hj)
  have h2 : j % ks.length < ks.length := Nat.mod_lt _ hk
  refine ⟨_, h.ok (j / ks.length) (j % ks.length) _ y h1 (List.getElem?_eq_getElem h2) ?_⟩
  rw [Nat.mul_comm, Nat.div_add_mod]; exact hy
theorem FRow.same {H H' : AH} {v : Value} {ks : List CK} {n : Nat} {xs : List Value} (h : FRow H v ks n xs) (hs : ∀ b, (blkOf v = some b ∨ ∃ y ∈ xs, blkOf y = some b) → rd H' b = rd H b) : FRow H' v ks n xs := by
  refine ⟨h.len, ?_, fun i c k y hi hk hy => (h.ok i c k y hi hk hy).same fun b hb => hs b (.inr ⟨y, List.mem_of_getElem? hy, hb⟩)⟩
  rcases h.row with h1 | ⟨b, o, cs, h1, h2, h3⟩
  · exact .inl h1
  · exact .inr ⟨b, o, cs, h1, by rw [hs b (.inl (by rw [h1]; rfl))]; exact h2, h3⟩
theorem FRow.cvs_same {H H' : AH} {xs : List Value} (hs : ∀ b, (∃ y ∈ xs, blkOf y = some b) → rd H' b = rd H b) : cvs H' xs = cvs H xs :=
  List.map_congr_left fun y hy => cv_same fun b hb => hs b ⟨y, hy, hb⟩
theorem FRow.rdable {H : AH} {v : Value} {ks : List CK} {n : Nat} {xs : List Value} (h : FRow H v ks n xs) : ∀ b, (blkOf v = some b ∨ ∃ y ∈ xs, blkOf y = some b) → (rd H b).isSome = true := by
  rintro b (hb | ⟨y, hy, hb⟩)
  · rcases h.row with ⟨h1, _⟩ | ⟨b', o, cs, h1, h2, h3⟩
    · rw [h1] at hb; simp [blkOf] at hb
    · rw [h1] at hb; simp [blkOf] at hb; subst hb; simp [h2]
  · obtain ⟨j, hj⟩ := List.mem_iff_getElem?.1 hy
    obtain ⟨k, hk⟩ := h.cell hj
    exact hk.rdable b hb
theorem FRow.mono {H L : AH} {v : Value} {ks : List CK} {n : Nat} {xs : List Value} (h : FRow H v ks n xs) : FRow (H ++ L) v ks n xs := h.same fun b hb => rdl (h.rdable b hb)
theorem FRow.vals {H L : AH} {v : Value} {ks : List CK} {n : Nat} {xs : List Value} (h : FRow H v ks n xs) : cvs (H ++ L) xs = cvs H xs := FRow.cvs_same fun b hb => rdl (h.rdable b (.inr hb))
/-- What an element is. -/
def elm (s : Nat) (xs : List Value) (i : Nat) : List Value := (xs.drop (i * s)).take s
theorem elm_get {s : Nat} {xs : List Value} {i c : Nat} (hc : c < s) : (elm s xs i)[c]? = xs[i * s + c]? := by
  unfold elm
  rw [List.getElem?_take_of_lt hc, List.getElem?_drop]
theorem FRow.elem {H : AH} {v : Value} {ks : List CK} {n : Nat} {xs : List Value} (h : FRow H v ks n xs) {i : Nat} (hi : i < n) : All2 H ks (elm ks.length xs i) := by
  have hl := h.len
  have hr := row_lt (s := ks.length) hi
  refine All2.of ?_ fun c k y hk hy => ?_
  · simp [elm]; omega
  · have hc := (List.getElem?_eq_some_iff.1 hk).1
    rw [elm_get hc] at hy
    exact h.ok i c k y hi hk hy
theorem FRow.op {H : AH} {v : Value} {ks : List CK} {n : Nat} {xs : List Value} (h : FRow H v ks n xs) : ∃ a c, v = .slice a n c ∧ (0 < n → ∃ b o cs, a = some ⟨b, o, none⟩ ∧ c = ks.length ∧ rd H b = some cs ∧ o + n * ks.length ≤ cs.length ∧
    ∀ i, i < n → aggAt ks.length (o + i * ks.length) cs = some (.agg (elm ks.length xs i).toArray) ∧ ∀ (c : Nat) y, (elm ks.length xs i)[c]? = some y → cs[o + i * ks.length + c]? = some y) := by
  have hl := h.len
  rcases h.row with ⟨rfl, rfl⟩ | ⟨b, o, cs, rfl, h1, h2, h3⟩
  · exact ⟨none, 0, rfl, fun h => by omega⟩
  · refine ⟨_, _, rfl, fun _ => ⟨b, o, cs, rfl, rfl, h1, h2, fun i hi => ?_⟩⟩
    have hr := row_lt (s := ks.length) hi
    have hc : ∀ (c : Nat) y, (elm ks.length xs i)[c]? = some y → cs[o + i * ks.length + c]? = some y := by
      intro c y hy
      have hlt : c < ks.length := by
        have := (List.getElem?_eq_some_iff.1 hy).1
        simp [elm] at this
        omega
      rw [elm_get hlt] at hy
      rw [Nat.add_assoc]
      exact h3 _ y hy
    refine ⟨aggAt_row (h.elem hi).len (by omega) hc, hc⟩
/-- A row whose cells own what they point to, each by itself. -/
def OwnC (H : AH) (y : Value) : Prop := (∃ n, y = .int .i64 n) ∨ (∃ x, y = .bool x) ∨ OwnRow H y (rowI H y)
structure OT (H : AH) (v : Value) (ks : List CK) (n : Nat) (xs : List Value) : Prop where
  len : xs.length = n * ks.length
  row : (v = .slice none 0 0 ∧ n = 0) ∨ ∃ b o cs, v = .slice (some ⟨b, o, none⟩) n ks.length ∧ H[b]? = some ⟨cs, .own⟩ ∧ o + n * ks.length ≤ cs.length ∧ ∀ (j : Nat) y, xs[j]? = some y → cs[o + j]? = some y
  ok : ∀ (i c : Nat) k y, i < n → ks[c]? = some k → xs[i * ks.length + c]? = some y → KOk H k y
  own : ∀ (j : Nat) y, xs[j]? = some y → OwnC H y
  out : ∀ (j : Nat) y, xs[j]? = some y → Dj v y
  dif : ∀ (i j : Nat) x y, i ≠ j → xs[i]? = some x → xs[j]? = some y → Dj x y
theorem OT.frow {H : AH} {v : Value} {ks : List CK} {n : Nat} {xs : List Value} (h : OT H v ks n xs) : FRow H v ks n xs := by
  refine ⟨h.len, ?_, h.ok⟩
  rcases h.row with h1 | ⟨b, o, cs, h1, h2, h3⟩
  · exact .inl h1
  · exact .inr ⟨b, o, cs, h1, rd_own h2, h3⟩
theorem get_rd {H H' : AH} {b : Nat} (h : H'[b]? = H[b]?) : rd H' b = rd H b := by unfold rd; rw [h]
theorem OwnC.same {H H' : AH} {y : Value} (h : OwnC H y) (hs : ∀ b, blkOf y = some b → H'[b]? = H[b]?) : OwnC H' y := by
  rcases h with h | h | h
  · exact .inl h
  · exact .inr (.inl h)
  · have := h.same hs
    exact .inr (.inr (by rw [this.rowI]; exact this))
theorem OT.same {H H' : AH} {v : Value} {ks : List CK} {n : Nat} {xs : List Value} (h : OT H v ks n xs) (hs : ∀ b, (blkOf v = some b ∨ ∃ y ∈ xs, blkOf y = some b) → H'[b]? = H[b]?) : OT H' v ks n xs := by
  refine ⟨h.len, ?_, (h.frow.same fun b hb => get_rd (hs b hb)).ok, fun j y hy => (h.own j y hy).same fun b hb => hs b (.inr ⟨y, List.mem_of_getElem? hy, hb⟩), h.out, h.dif⟩
  rcases h.row with h1 | ⟨b, o, cs, h1, h2, h3⟩
  · exact .inl h1
  · exact .inr ⟨b, o, cs, h1, by rw [hs b (.inl (by rw [h1]; rfl))]; exact h2, h3⟩
theorem OwnRow.lt {H : AH} {v : Value} {l : List Int} (h : OwnRow H v l) : ∀ b, blkOf v = some b → b < H.length := by
  rcases h with ⟨rfl, _⟩ | ⟨b, o, cs, rfl, h2, _⟩
  · intro b h; simp [blkOf] at h
  · intro b' h
    simp [blkOf] at h
    subst h
    exact (List.getElem?_eq_some_iff.1 h2).1
theorem OwnC.lt {H : AH} {y : Value} (h : OwnC H y) : ∀ b, blkOf y = some b → b < H.length := by
  rcases h with ⟨n, rfl⟩ | ⟨n, rfl⟩ | h
  · intro b h; simp [blkOf] at h
  · intro b h; simp [blkOf] at h
  · exact h.lt
theorem OT.lt {H : AH} {v : Value} {ks : List CK} {n : Nat} {xs : List Value} (h : OT H v ks n xs) : ∀ b, (blkOf v = some b ∨ ∃ y ∈ xs, blkOf y = some b) → b < H.length := by
  rintro b (hb | ⟨y, hy, hb⟩)
  · rcases h.row with ⟨h1, _⟩ | ⟨b', o, cs, h1, h2, h3⟩
    · rw [h1] at hb; simp [blkOf] at hb
    · rw [h1] at hb; simp [blkOf] at hb; subst hb; exact (List.getElem?_eq_some_iff.1 h2).1
  · obtain ⟨j, hj⟩ := List.mem_iff_getElem?.1 hy
    exact (h.own j y hj).lt b hb
theorem OT.mono {H L : AH} {v : Value} {ks : List CK} {n : Nat} {xs : List Value} (h : OT H v ks n xs) : OT (H ++ L) v ks n xs := h.same fun b hb => List.getElem?_append_left (h.lt b hb)
def cnt1 : CV → Nat | .i _ => 1 | .b _ => 1 | .r l => l.length
def mark1 : CV → Int → CV | .i _, k => .i k | .b _, k => .b (k % 3 == 0) | .r l, k => .r (mks k l.length)
def markF : List CV → Int → List CV
  | [], _ => []
  | x :: r, k => mark1 x k :: markF r (k + cnt1 x)
def cntF (l : List CV) : Nat := (l.map cnt1).sum
theorem markF_append : ∀ (l m : List CV) (k : Int), markF (l ++ m) k = markF l k ++ markF m (k + cntF l)
  | [], m, k => by simp [markF, cntF]
  | x :: l, m, k => by
    simp only [List.cons_append, markF, markF_append l m]
    rw [show k + (cnt1 x : Int) + cntF l = k + cntF (x :: l) by simp only [cntF, List.map_cons, List.sum_cons]; omega]
theorem cntF_append {l m : List CV} : cntF (l ++ m) = cntF l + cntF m := by simp [cntF]
theorem markF_len : ∀ (l : List CV) (k : Int), (markF l k).length = l.length
  | [], _ => rfl
  | x :: l, k => by simp [markF, markF_len l]
structure MC (H : AH) (v : Value) (ks : List CK) (n : Nat) (xs : List Value) (k : Int) (p : Nat) (q : Int) (ys : List Value) (H' : AH) : Prop where
  ot : OT H' v ks n ys
  blk : ys.map blkOf = xs.map blkOf
  len : H'.length = H.length
  frame : ∀ b, ¬ (blkOf v = some b ∨ ∃ y ∈ xs, blkOf y = some b) → H'[b]? = H[b]?
  vals : cvs H' ys = markF ((cvs H xs).take p) k ++ (cvs H xs).drop p
  cnt : q = k + cntF ((cvs H xs).take p)
theorem MC.done {H H' : AH} {v : Value} {ks : List CK} {n p : Nat} {xs ys : List Value} {k q : Int} (h : MC H v ks n xs k p q ys H') (hp : xs.length ≤ p) : cvs H' ys = markF (cvs H xs) k ∧ q = k + cntF (cvs H xs) := by
  have e : (cvs H xs).take p = cvs H xs := List.take_of_length_le (by simp [cvs]; omega)
  have e2 : (cvs H xs).drop p = [] := List.drop_of_length_le (by simp [cvs]; omega)
  have h1 := h.vals
  have h2 := h.cnt
  rw [e] at h1 h2
  rw [e2, List.append_nil] at h1
  exact ⟨h1, h2⟩
theorem MC.bk {H H' : AH} {v : Value} {ks : List CK} {n p : Nat} {xs ys : List Value} {k q : Int} (h : MC H v ks n xs k p q ys H') {b : Nat} : (∃ y ∈ ys, blkOf y = some b) ↔ ∃ y ∈ xs, blkOf y = some b := by
  have e : ∀ zs : List Value, (∃ y ∈ zs, blkOf y = some b) ↔ some b ∈ zs.map blkOf := by
    intro zs; simp only [List.mem_map]
  rw [e, e, h.blk]
theorem MC.rest {H H' : AH} {v : Value} {ks : List CK} {n p : Nat} {xs ys : List Value} {k q : Int} (h : MC H v ks n xs k p q ys H') {y : Value} (hy : ys[p]? = some y) : (cvs H xs)[p]? = some (cv H' y) := by
  have h1 := congrArg (fun l : List CV => l[p]?) h.vals
  have hl : ys.length = xs.length := by have := congrArg List.length h.blk; simpa using this
  have hp := (List.getElem?_eq_some_iff.1 hy).1
  have e : (markF ((cvs H xs).take p) k).length = p := by rw [markF_len]; simp [cvs]; omega
  simp only [List.getElem?_append_right (Nat.le_of_eq e), e, Nat.sub_self, List.getElem?_drop, Nat.add_zero] at h1
  rw [← h1]
  simp [cvs, hy]
theorem MC.take {H H' : AH} {v : Value} {ks : List CK} {n p : Nat} {xs ys : List Value} {k q : Int} (h : MC H v ks n xs k p q ys H') {y : Value} (hy : ys[p]? = some y) :
    (cvs H xs).take (p + 1) = (cvs H xs).take p ++ [cv H' y] ∧ (cvs H xs).drop p = cv H' y :: (cvs H xs).drop (p + 1) := by
  have h1 := h.rest hy
  obtain ⟨h2, h3⟩ := List.getElem?_eq_some_iff.1 h1
  rw [← h3]
  exact ⟨List.take_succ_eq_append_getElem h2, List.drop_eq_getElem_cons h2⟩
/-- A cell that is a row of ints is written. -/
theorem MC.ints {H H' : AH} {v : Value} {ks : List CK} {n p : Nat} {xs ys : List Value} {k q : Int} (h : MC H v ks n xs k p q ys H') {y : Value} (hy : ys[p]? = some y) (ho : OwnRow H' y (rowI H' y)) (hok : OkI H' y) :
    MC H v ks n xs k (p + 1) (q + (rowI H' y).length) ys (putI H' y (mks q (rowI H' y).length)) := by
  have hp := (List.getElem?_eq_some_iff.1 hy).1
  have hput := ho.put (xs := mks q (rowI H' y).length) mks_len
  have hsy : ∀ (j : Nat) w, j ≠ p → ys[j]? = some w → ∀ g, blkOf w = some g → (putI H' y (mks q (rowI H' y).length))[g]? = H'[g]? := fun j w hj hw => putI_dj (h.ot.dif p j y w (Ne.symm hj) hy hw)
  refine ⟨⟨h.ot.len, ?_, ?_, ?_, h.ot.out, h.ot.dif⟩, h.blk, by rw [putI_len, h.len], ?_, ?_, ?_⟩
  · rcases h.ot.row with h1 | ⟨b, o, cs, h1, h2, h3⟩
    · exact .inl h1
    · refine .inr ⟨b, o, cs, h1, ?_, h3⟩
      rw [putI_get (h.ot.out p y hy b (by rw [h1]; rfl))]
      exact h2
  · intro i c k' w hi hk hw
    have hold := h.ot.ok i c k' w hi hk hw
    by_cases e : i * ks.length + c = p
    · rw [e, hy] at hw
      cases hw
      cases k' with
      | i => obtain ⟨m, rfl⟩ := hold; obtain ⟨a, c, e⟩ := hok.slice; cases e
      | b => obtain ⟨m, rfl⟩ := hold; obtain ⟨a, c, e⟩ := hok.slice; cases e
      | r => exact ⟨hput.int.ok, by rw [hput.rowI, mks_len]; exact hold.2⟩
      | w => exact ⟨hput.int.ok, by rw [hput.rowI, mks_len]; exact hold.2⟩
    · exact hold.same fun g hg => get_rd (hsy _ w e hw g hg)
  · intro j w hw
    by_cases e : j = p
    · subst e
      rw [hy] at hw; cases hw
      exact .inr (.inr (by rw [hput.rowI]; exact hput))
    · exact (h.ot.own j w hw).same (hsy j w e hw)
  · intro g hg
    rw [putI_get, h.frame g hg]
    intro e
    exact hg (.inr (h.bk.1 ⟨y, List.mem_of_getElem? hy, e⟩))
  · obtain ⟨e1, e2⟩ := h.take hy
    have e3 : cvs (putI H' y (mks q (rowI H' y).length)) ys = (cvs H' ys).set p (.r (mks q (rowI H' y).length)) := by
      refine List.ext_getElem? fun j => ?_
      simp only [cvs, List.getElem?_map, List.getElem?_set, List.length_map]
      split
      · rename_i e
        subst e
        rw [hy, Option.map_some, cv_row hput.int.ok, hput.rowI]
      · rename_i e
        cases hj : ys[j]? with
        | none => rfl
        | some w => simp only [Option.map_some, cv_same fun g hg => get_rd (hsy j w (Ne.symm e) hj g hg)]
    have e4 : (markF ((cvs H xs).take p) k).length = p := by
      rw [markF_len]
      have := congrArg List.length h.blk
      simp [cvs] at this ⊢
      omega
    rw [e3, h.vals, e1, markF_append, List.set_append_right _ _ (by omega), e4, Nat.sub_self, e2, List.set_cons_zero, List.append_assoc]
    congr 1
    rw [cv_row hok]
    have hcn := h.cnt
    simp only [markF, mark1, List.singleton_append, List.cons.injEq, and_true, ← hcn]
  · obtain ⟨e1, e2⟩ := h.take hy
    rw [e1, cntF_append, h.cnt, cv_row hok]
    simp only [cntF, List.map_cons, List.map_nil, List.sum_cons, List.sum_nil, cnt1]; omega

theorem ext_of {H H' : AH} (hl : H.length ≤ H'.length) (hk : ∀ b, b < H.length → H'[b]? = H[b]?) : ∃ K, H' = H ++ K := by
  refine ⟨H'.drop H.length, List.ext_getElem? fun b => ?_⟩
  rcases Nat.lt_or_ge b H.length with h | h
  · rw [List.getElem?_append_left h, hk b h]
  · rw [List.getElem?_append_right h, List.getElem?_drop, Nat.add_sub_cancel' h]
/-- What append leaves of the heap. -/
structure App (H : AH) (v : Value) (H' : AH) (v' : Value) : Prop where
  len : H.length ≤ H'.length
  keep : ∀ b, b < H.length → blkOf v ≠ some b → H'[b]? = H[b]?
  new : ∀ b, blkOf v' = some b → blkOf v = some b ∨ H.length ≤ b
theorem App.ext {H0 H H' : AH} {v v' : Value} (h : App H v H' v') (h0 : ∃ K, H = H0 ++ K) (hv : ∀ b, blkOf v = some b → H0.length ≤ b) : ∃ K, H' = H0 ++ K := by
  obtain ⟨K, rfl⟩ := h0
  have hl := h.len
  rw [List.length_append] at hl
  refine ext_of (by omega) fun b hb => ?_
  rw [h.keep b (by rw [List.length_append]; omega) (fun e => by have := hv b e; omega), List.getElem?_append_left hb]
theorem IntRow.cl {H : AH} {v : Value} {l : List Int} (h : IntRow H v l) : cl H 1 v = some (ints l) ∧ lenS v = l.length := by
  rcases h with ⟨rfl, rfl⟩ | ⟨b, o, cs, rfl, h1, h2, h3⟩
  · exact ⟨rfl, rfl⟩
  · refine ⟨?_, rfl⟩
    simp only [Go.Proofs.Ytockhdhilemfkaa.AM.cl, h1, Option.bind_some, Nat.mul_one, if_pos h2, h3]
theorem OwnRow.ownOk {H : AH} {v : Value} {l : List Int} (h : OwnRow H v l) : Go.Proofs.Ytockhdhilemfkaa.AM.ownOk v 1 H = true := by
  rcases h with ⟨rfl, rfl⟩ | ⟨b, o, cs, rfl, h1, h2, h3⟩
  · rfl
  · simp [Go.Proofs.Ytockhdhilemfkaa.AM.ownOk, h1]
theorem ints_leaf {l : List Int} : (ints l).all leaf = true := by
  simp [ints, leaf]
theorem ints_app {l m : List Int} : ints l ++ ints m = ints (l ++ m) := by simp [ints]
theorem kill_keep {H : AH} {v : Value} {b : Nat} (h : blkOf v ≠ some b) : (kill v H)[b]? = H[b]? := by
  unfold kill
  split
  · rename_i a n c
    rw [List.getElem?_set_ne]
    intro e
    apply h
    rw [← e]
    rfl
  · rfl
theorem kill_len2 {H : AH} {v : Value} : (kill v H).length = H.length := by unfold kill; split <;> simp
theorem oA_own {H : AH} {v w : Value} {l m : List Int} {Φ : Value → AH → Prop} (hv : OwnRow H v l) (hw : IntRow H w m) (hl : l.length + m.length ≤ 1073741824)
    (h : ∀ a c H', OwnRow H' (.slice a (l.length + m.length) c) (l ++ m) → App H v H' (.slice a (l.length + m.length) c) → Φ (.slice a (l.length + m.length) c) H') : oA (app 1 v w H) Φ := by
  obtain ⟨c1, c2⟩ := hv.int.cl
  obtain ⟨c3, c4⟩ := hw.cl
  unfold app
  rw [c1, c3]
  simp only [c2, c4]
  by_cases hm : m.length = 0
  · rw [if_pos hm]
    have : m = [] := List.eq_nil_of_length_eq_zero hm
    subst this
    obtain ⟨a, c, e⟩ := (show ∃ a c, v = .slice a l.length c by obtain ⟨a, c, h1, _⟩ := hv.int.op; exact ⟨a, c, h1⟩)
    subst e
    have := h a c H (by simpa using hv) ⟨Nat.le_refl _, fun b _ _ => rfl, fun b hb => .inl hb⟩
    simpa [oA] using this
  · rw [if_neg hm, if_pos ⟨hl, ints_leaf, hv.ownOk⟩]
    refine h _ _ _ ?_ ⟨by simp [kill_len2], fun b hb hn => ?_, fun b hb => .inr ?_⟩
    · refine .inr ⟨H.length, 0, ints l ++ ints m, by rw [List.length_append], ?_, ?_, ?_⟩
      · rw [← kill_len2 (v := v), gt0]; rfl
      · simp [ints]
      · rw [List.drop_zero, List.take_of_length_le (by simp [ints]), ints_app]
    · rw [List.getElem?_append_left (by rw [kill_len2]; exact hb), kill_keep hn]
    · simp [blkOf] at hb; omega
theorem OwnRow.nil {H : AH} : OwnRow H (.slice none 0 0) [] := .inl ⟨rfl, rfl⟩
theorem OwnRow.at0 {H : AH} {b : Nat} {cs : List Value} (h : H[b]? = some ⟨cs, .own⟩) : OwnRow H (.slice (some ⟨b, 0, none⟩) 0 1) [] := .inr ⟨b, 0, cs, rfl, h, by simp, by simp [ints]⟩
theorem IntRow.ext {H H' : AH} {w : Value} {m : List Int} (h : IntRow H w m) (he : ∃ K, H' = H ++ K) : IntRow H' w m := by
  obtain ⟨K, rfl⟩ := he; exact h.mono
theorem App.own {H H' : AH} {v v' w : Value} {m : List Int} (h : App H v H' v') (hw : OwnRow H w m) (hd : ∀ b, blkOf w = some b → blkOf v ≠ some b) : OwnRow H' w m :=
  hw.same fun b hb => h.keep b (hw.lt b hb) (hd b hb)
theorem App.at {H H' : AH} {v v' : Value} {b : Nat} {k : Blk} (h : App H v H' v') (hb : H[b]? = some k) (hd : blkOf v ≠ some b) : H'[b]? = some k := by
  rw [h.keep b (List.getElem?_eq_some_iff.1 hb).1 hd, hb]
theorem set_at {H : AH} {b : Nat} {k k' : Blk} (h : H[b]? = some k) : (H.set b k')[b]? = some k' := List.getElem?_set_self (List.getElem?_eq_some_iff.1 h).1
theorem set_ext {H H' : AH} {b : Nat} {k : Blk} (h : ∃ K, H' = H ++ K) (hb : H.length ≤ b) : ∃ K, H'.set b k = H ++ K := by
  obtain ⟨K, rfl⟩ := h
  exact ⟨K.set (b - H.length) k, by rw [List.set_append_right _ _ hb]⟩
theorem app_ext {H H' L : AH} (h : ∃ K, H' = H ++ K) : ∃ K, H' ++ L = H ++ K := by
  obtain ⟨K, rfl⟩ := h
  exact ⟨K ++ L, by simp⟩
theorem ext_trans {H H1 H2 : AH} (h1 : ∃ K, H1 = H ++ K) (h2 : ∃ K, H2 = H1 ++ K) : ∃ K, H2 = H ++ K := by
  obtain ⟨K, rfl⟩ := h1; obtain ⟨L, rfl⟩ := h2; exact ⟨K ++ L, by simp⟩
theorem ext_len {H H' : AH} (h : ∃ K, H' = H ++ K) : H.length ≤ H'.length := by
  obtain ⟨K, rfl⟩ := h; simp
theorem OwnRow.set {H : AH} {v : Value} {l : List Int} {b : Nat} {k : Blk} (h : OwnRow H v l) (hb : blkOf v ≠ some b) : OwnRow (H.set b k) v l :=
  h.same fun g hg => List.getElem?_set_ne (fun e => hb (by rw [e]; exact hg))
/-- An array whose rows are its own. -/
structure AOwn (H0 H : AH) (v : Value) (sh dt : List Int) (p q : Value) : Prop where
  eq : v = .agg #[p, q]
  sh : OwnRow H p sh
  dt : OwnRow H q dt
  dj : Dj p q
  n1 : ∀ b, blkOf p = some b → H0.length ≤ b
  n2 : ∀ b, blkOf q = some b → H0.length ≤ b

theorem copyArray_ok {H : AH} {p q : Value} {sh dt : List Int} (hp : IntRow H p sh) (hq : IntRow H q dt) (l1 : sh.length ≤ 1073741824) (l2 : dt.length ≤ 1073741824) :
    CallsA Try.prog 78 #[.agg #[p, q]] H fun r H' => (∃ p' q', AOwn H H' r sh dt p' q') ∧ ∃ K, H' = H ++ K := by
  refine w78 ?_
  unfold k78
  obtain ⟨a1, c1, rfl, _⟩ := hp.op
  obtain ⟨a2, c2, rfl, _⟩ := hq.op
  simp -implicitDefEqProofs only [kz, kk0, kk1, kk2, kk3, ↓two_true, ↓two_false, oS_some, oM_some, mkv, aggAt, Nat.reduceLeDiff, Nat.reduceSub, Nat.reduceMul, implies_true, Nat.reduceEqDiff, reduceIte, Nat.reduceAdd, Nat.reduceBEq, reduceCtorEq, al26, ap24_24, bd26, fa26_0, fa26_1, ld24, ld26, st26]
  refine oA_own (l := []) OwnRow.nil hp.mono (by simpa using l1) fun a c H1 o1 x1 => ?_
  simp only [List.length_nil, Nat.zero_add, List.nil_append] at o1 x1 ⊢
  have e1 := x1.ext ⟨_, rfl⟩ (by intro b hb; simp [blkOf] at hb)
  have b0 := x1.at (b := H.length) (by rw [gt0]; rfl) (by simp [blkOf])
  have b1 := x1.at (b := H.length + 1) (by rw [gti]; rfl) (by simp [blkOf])
  have n1 : ∀ b, blkOf (.slice a sh.length c) = some b → H.length + 2 ≤ b := fun b hb => by
    rcases x1.new b hb with h | h
    · simp [blkOf] at h
    · simp at h; omega
  have h1 := x1.len
  simp only [List.length_append, List.length_cons, List.length_nil] at h1
  clear x1
  simp -implicitDefEqProofs only [kz, kk0, kk1, kk2, kk3, ↓two_true, ↓two_false, oS_some, oM_some, mkv, aggAt, Nat.reduceLeDiff, Nat.reduceSub, Nat.reduceMul, implies_true, Nat.reduceEqDiff, reduceIte, Nat.reduceAdd, Nat.reduceBEq, reduceCtorEq, al26, ap24_24, bd26, fa26_0, fa26_1, ld24, ld26, st26, rd_own b0]
  refine oA_own (l := []) OwnRow.nil (hq.ext e1) (by simpa using l2) fun a' c' H2 o2 x2 => ?_
  simp only [List.length_nil, Nat.zero_add, List.nil_append] at o2 x2 ⊢
  have hne : ∀ b, blkOf (.slice none 0 0) ≠ some b := fun b e => by simp [blkOf] at e
  have e2 := x2.ext e1 (by intro b hb; simp [blkOf] at hb)
  have o3 := x2.own o1 fun b _ => hne b
  have b2 := x2.at b0 (hne _)
  have b3 := x2.at b1 (hne _)
  have n2 : ∀ b, blkOf (.slice a' dt.length c') = some b → H1.length ≤ b := fun b hb => by
    rcases x2.new b hb with h | h
    · simp [blkOf] at h
    · exact h
  clear x2
  simp -implicitDefEqProofs only [kz, kk0, kk1, kk2, kk3, ↓two_true, ↓two_false, oS_some, oM_some, mkv, aggAt, Nat.reduceLeDiff, Nat.reduceSub, Nat.reduceMul, implies_true, Nat.reduceEqDiff, reduceIte, Nat.reduceAdd, Nat.reduceBEq, reduceCtorEq, al26, ap24_24, bd26, fa26_0, fa26_1, ld24, ld26, st26, rd_own b2, wrt_own b3, rd_own b0, rd_own (set_at b3)]
  refine ⟨⟨_, _, rfl, o3.set fun e => ?_, o2.set fun e => ?_, fun b h3 h4 => ?_, fun b hb => ?_, fun b hb => ?_⟩, set_ext e2 (by omega)⟩
  · have := n1 _ e; omega
  · have := n2 _ e; omega
  · have := o1.lt b h3; have := n2 b h4; omega
  · have := n1 _ hb; omega
  · have := n2 _ hb; omega

/-- A row of cells of its own; its cells may be read. -/
structure FOwn (H : AH) (v : Value) (ks : List CK) (n : Nat) (xs : List Value) : Prop where
  len : xs.length = n * ks.length
  row : (v = .slice none 0 0 ∧ n = 0) ∨ ∃ b o cs, v = .slice (some ⟨b, o, none⟩) n ks.length ∧ H[b]? = some ⟨cs, .own⟩ ∧ o + n * ks.length ≤ cs.length ∧ ∀ (j : Nat) y, xs[j]? = some y → cs[o + j]? = some y
  ok : ∀ (i c : Nat) k y, i < n → ks[c]? = some k → xs[i * ks.length + c]? = some y → KOk H k y
  out : ∀ (j : Nat) y, xs[j]? = some y → Dj v y
theorem FOwn.frow {H : AH} {v : Value} {ks : List CK} {n : Nat} {xs : List Value} (h : FOwn H v ks n xs) : FRow H v ks n xs := by
  refine ⟨h.len, ?_, h.ok⟩
  rcases h.row with h1 | ⟨b, o, cs, h1, h2, h3⟩
  · exact .inl h1
  · exact .inr ⟨b, o, cs, h1, rd_own h2, h3⟩
theorem KOk.lt {H : AH} {k : CK} {y : Value} (h : KOk H k y) : ∀ b, blkOf y = some b → b < H.length := by
  intro b hb
  have := h.rdable b hb
  rcases Nat.lt_or_ge b H.length with h1 | h1
  · exact h1
  · unfold rd at this; rw [List.getElem?_eq_none h1] at this; cases this
theorem FRow.lt {H : AH} {v : Value} {ks : List CK} {n : Nat} {xs : List Value} (h : FRow H v ks n xs) : ∀ b, (blkOf v = some b ∨ ∃ y ∈ xs, blkOf y = some b) → b < H.length := by
  intro b hb
  have := h.rdable b hb
  rcases Nat.lt_or_ge b H.length with h1 | h1
  · exact h1
  · unfold rd at this; rw [List.getElem?_eq_none h1] at this; cases this
theorem FOwn.same {H H' : AH} {v : Value} {ks : List CK} {n : Nat} {xs : List Value} (h : FOwn H v ks n xs) (hs : ∀ b, (blkOf v = some b ∨ ∃ y ∈ xs, blkOf y = some b) → H'[b]? = H[b]?) : FOwn H' v ks n xs := by
  refine ⟨h.len, ?_, (h.frow.same fun b hb => get_rd (hs b hb)).ok, h.out⟩
  rcases h.row with h1 | ⟨b, o, cs, h1, h2, h3⟩
  · exact .inl h1
  · exact .inr ⟨b, o, cs, h1, by rw [hs b (.inl (by rw [h1]; rfl))]; exact h2, h3⟩
theorem FOwn.mono {H L : AH} {v : Value} {ks : List CK} {n : Nat} {xs : List Value} (h : FOwn H v ks n xs) : FOwn (H ++ L) v ks n xs := h.same fun b hb => List.getElem?_append_left (h.frow.lt b hb)
theorem FOwn.nil {H : AH} {ks : List CK} : FOwn H (.slice none 0 0) ks 0 [] := ⟨by simp, .inl ⟨rfl, rfl⟩, fun i c k y hi => by omega, fun j y h => by simp at h⟩
theorem FOwn.at0 {H : AH} {ks : List CK} {b : Nat} {cs : List Value} (h : H[b]? = some ⟨cs, .own⟩) : FOwn H (.slice (some ⟨b, 0, none⟩) 0 ks.length) ks 0 [] := ⟨by simp, .inr ⟨b, 0, cs, rfl, h, by simp, fun j y h => by simp at h⟩, fun i c k y hi => by omega, fun j y h => by simp at h⟩
theorem OT.of {H : AH} {v : Value} {ks : List CK} {n : Nat} {xs : List Value} (h : FOwn H v ks n xs) (h1 : ∀ (j : Nat) y, xs[j]? = some y → OwnC H y) (h2 : ∀ (i j : Nat) x y, i ≠ j → xs[i]? = some x → xs[j]? = some y → Dj x y) : OT H v ks n xs := ⟨h.len, h.row, h.ok, h1, h.out, h2⟩
theorem KOk.leaf {H : AH} {k : CK} {y : Value} (h : KOk H k y) : Go.Proofs.Ytockhdhilemfkaa.AM.leaf y = true := by
  cases k with
  | i => obtain ⟨n, rfl⟩ := h; rfl
  | b => obtain ⟨n, rfl⟩ := h; rfl
  | r => obtain ⟨a, c, e⟩ := h.1.slice; rw [e]; rfl
  | w => obtain ⟨a, c, e⟩ := h.1.slice; rw [e]; rfl
theorem All2.mem {H : AH} {ks : List CK} {x : List Value} (h : All2 H ks x) {y : Value} (hy : y ∈ x) : ∃ k, KOk H k y := by
  obtain ⟨c, hc, e⟩ := List.mem_iff_getElem.1 hy
  have hl := h.len
  exact ⟨ks[c], h.get c ks[c] y (List.getElem?_eq_getElem (by omega)) (by rw [List.getElem?_eq_getElem hc, e])⟩
theorem FOwn.cl {H : AH} {v : Value} {ks : List CK} {n : Nat} {xs : List Value} (h : FOwn H v ks n xs) : cl H ks.length v = some xs ∧ lenS v = n ∧ ownOk v ks.length H = true := by
  have hl := h.len
  rcases h.row with ⟨rfl, rfl⟩ | ⟨b, o, cs, rfl, h1, h2, h3⟩
  · have : xs = [] := List.eq_nil_of_length_eq_zero (by omega)
    subst this
    exact ⟨rfl, rfl, rfl⟩
  · refine ⟨?_, rfl, by simp [ownOk, h1]⟩
    simp only [Go.Proofs.Ytockhdhilemfkaa.AM.cl, rd_own h1, Option.bind_some, if_pos h2]
    congr 1
    refine List.ext_getElem? fun j => ?_
    rcases Nat.lt_or_ge j xs.length with h4 | h4
    · rw [List.getElem?_take_of_lt (by omega), List.getElem?_drop, h3 j _ (List.getElem?_eq_getElem h4), List.getElem?_eq_getElem h4]
    · rw [List.getElem?_eq_none (by simp; omega), List.getElem?_eq_none h4]
theorem cvs_take {H : AH} {s i : Nat} {xs : List Value} : (cvs H xs).take ((i + 1) * s) = (cvs H xs).take (i * s) ++ (elm s xs i).map (cv H) := by
  unfold cvs elm
  rw [Nat.add_mul, Nat.one_mul, List.take_add, List.map_take, List.map_drop]
/-- All of a row is its own, and no older than a heap. -/
structure New (H0 H : AH) (v : Value) (ks : List CK) (n : Nat) (ys : List Value) : Prop where
  ot : OT H v ks n ys
  fr : ∀ b, (blkOf v = some b ∨ ∃ y ∈ ys, blkOf y = some b) → H0.length ≤ b
theorem New.mono {H0 H L : AH} {v : Value} {ks : List CK} {n : Nat} {ys : List Value} (h : New H0 H v ks n ys) : New H0 (H ++ L) v ks n ys := ⟨h.ot.mono, h.fr⟩
theorem New.nil {H0 H : AH} {ks : List CK} : New H0 H (.slice none 0 0) ks 0 [] := ⟨OT.of FOwn.nil (fun j y h => by simp at h) fun i j x y _ h => by simp at h, fun b hb => by simp [blkOf] at hb⟩
theorem New.at0 {H0 H : AH} {ks : List CK} {b : Nat} {cs : List Value} (h : H[b]? = some ⟨cs, .own⟩) (hb : H0.length ≤ b) : New H0 H (.slice (some ⟨b, 0, none⟩) 0 ks.length) ks 0 [] :=
  ⟨OT.of (FOwn.at0 h) (fun j y h => by simp at h) fun i j x y _ h => by simp at h, fun g hg => by simp [blkOf] at hg; omega⟩
theorem FRow.opn {H : AH} {v : Value} {ks : List CK} {n : Nat} {xs : List Value} (s : Nat) (hs : ks.length = s) (h : FRow H v ks n xs) : ∃ a c, v = .slice a n c ∧ (0 < n → ∃ b o cs, a = some ⟨b, o, none⟩ ∧ c = s ∧ rd H b = some cs ∧ o + n * s ≤ cs.length ∧
    ∀ i, i < n → aggAt s (o + i * s) cs = some (.agg (elm s xs i).toArray) ∧ ∀ (c : Nat) y, (elm s xs i)[c]? = some y → cs[o + i * s + c]? = some y) := by
  subst hs; exact h.op
theorem FRow.elemn {H : AH} {v : Value} {ks : List CK} {n : Nat} {xs : List Value} (s : Nat) (hs : ks.length = s) (h : FRow H v ks n xs) {i : Nat} (hi : i < n) : All2 H ks (elm s xs i) := by
  subst hs; exact h.elem hi
theorem New.blk {H0 H : AH} {v : Value} {ks : List CK} {n : Nat} {ys : List Value} (h : New H0 H v ks n ys) : ∀ b, blkOf v = some b → H0.length ≤ b := fun b hb => h.fr b (.inl hb)
theorem pw_get {x : List Value} (h : x.Pairwise Dj) : ∀ (i j : Nat) y z, i ≠ j → x[i]? = some y → x[j]? = some z → Dj y z := by
  intro i j y z hij hy hz
  obtain ⟨h1, e1⟩ := List.getElem?_eq_some_iff.1 hy
  obtain ⟨h2, e2⟩ := List.getElem?_eq_some_iff.1 hz
  rw [List.pairwise_iff_getElem] at h
  rcases Nat.lt_or_gt_of_ne hij with h3 | h3
  · have := h i j h1 h2 h3
    rwa [e1, e2] at this
  · have := h j i h2 h1 h3
    rw [e1, e2] at this
    exact this.symm
theorem MC.at {H H' : AH} {v : Value} {ks : List CK} {n p : Nat} {xs ys : List Value} {k q : Int} (s : Nat) (hs : ks.length = s) (h : MC H v ks n xs k p q ys H') {b o : Nat} {c : Nat} (hv : v = .slice (some ⟨b, o, none⟩) n c) (hn : 0 < n) :
    c = s ∧ ∃ cs, H'[b]? = some ⟨cs, .own⟩ ∧ o + n * s ≤ cs.length ∧ ∀ (j : Nat) y, ys[j]? = some y → cs[o + j]? = some y := by
  subst hs
  rcases h.ot.row with ⟨_, h1⟩ | ⟨b', o', cs, h1, h2⟩
  · omega
  · rw [hv] at h1
    simp only [Value.slice.injEq, Option.some.injEq, Addr.mk.injEq] at h1
    obtain ⟨⟨rfl, rfl, _⟩, _, rfl⟩ := h1
    exact ⟨rfl, cs, h2⟩
theorem cntF_take {l : List CV} {p : Nat} : cntF (l.take p) ≤ cntF l := by
  have : cntF l = cntF (l.take p) + cntF (l.drop p) := by rw [← cntF_append, List.take_append_drop]
  omega
theorem MC.lim {H H' : AH} {v : Value} {ks : List CK} {n p : Nat} {xs ys : List Value} {k q : Int} (h : MC H v ks n xs k p q ys H') {y : Value} (hy : ys[p]? = some y) : k ≤ q ∧ q + cnt1 (cv H' y) ≤ k + cntF (cvs H xs) := by
  have h1 := h.cnt
  have h2 := (h.take hy).1
  have h3 := cntF_take (l := cvs H xs) (p := p + 1)
  rw [h2, cntF_append] at h3
  have : cntF [cv H' y] = cnt1 (cv H' y) := by simp [cntF]
  omega
theorem OwnC.row {H : AH} {y : Value} (h : OwnC H y) (hk : OkI H y) : OwnRow H y (rowI H y) := by
  rcases h with ⟨n, rfl⟩ | ⟨x, rfl⟩ | h
  · obtain ⟨a, c, e⟩ := hk.slice; cases e
  · obtain ⟨a, c, e⟩ := hk.slice; cases e
  · exact h
theorem OwnRow.blk {H : AH} {v : Value} {l : List Int} (h : OwnRow H v l) (hl : 0 < l.length) : ∃ b o cs, v = .slice (some ⟨b, o, none⟩) l.length 1 ∧ H[b]? = some ⟨cs, .own⟩ ∧ o + l.length ≤ cs.length ∧ ∀ (i : Nat) x, l[i]? = some x → cs[o + i]? = some (.int .i64 x) := by
  rcases h with ⟨rfl, rfl⟩ | ⟨b, o, cs, rfl, h1, h2, h3⟩
  · simp at hl
  · refine ⟨b, o, cs, rfl, h1, h2, fun i x hx => ?_⟩
    obtain ⟨hi, e⟩ := List.getElem?_eq_some_iff.1 hx
    have := ints_get hi
    rw [← h3, List.getElem?_take_of_lt hi, List.getElem?_drop, e] at this
    exact this
theorem OwnRow.ext {H H' : AH} {v : Value} {l : List Int} (h : OwnRow H v l) (he : ∃ K, H' = H ++ K) : OwnRow H' v l := by obtain ⟨K, rfl⟩ := he; exact h.mono
theorem get_ext {H H' : AH} {b : Nat} {k : Blk} (h : H[b]? = some k) (he : ∃ K, H' = H ++ K) : H'[b]? = some k := by obtain ⟨K, rfl⟩ := he; exact gtl h
theorem rd_ext {H H' : AH} {b : Nat} {cs : List Value} (h : rd H b = some cs) (he : ∃ K, H' = H ++ K) : rd H' b = some cs := by obtain ⟨K, rfl⟩ := he; rw [rdl (by simp [h]), h]
theorem All2.ext {H H' : AH} {ks : List CK} {x : List Value} (h : All2 H ks x) (he : ∃ K, H' = H ++ K) : All2 H' ks x ∧ x.map (cv H') = x.map (cv H) := by obtain ⟨K, rfl⟩ := he; exact ⟨h.mono, h.mapcv⟩
theorem intRow1 {H : AH} {d : Int} : IntRow (H ++ [⟨[.int .i64 d], .own⟩]) (.slice (some ⟨H.length, 0, none⟩) 1 1) [d] :=
  .inr ⟨H.length, 0, [.int .i64 d], rfl, by rw [rd0]; rfl, by simp, by simp [ints]⟩

theorem SOwn.new {H : AH} {s : Nat} {xs : List (List Value)} (h : ∀ x ∈ xs, x.length = s) : SOwn (H ++ [⟨xs.flatten, .own⟩]) (.slice (some ⟨H.length, 0, none⟩) xs.length s) s xs := by
  obtain ⟨h1, h2⟩ := flat_get xs h
  refine .inr ⟨H.length, 0, xs.flatten, rfl, by rw [gt0]; rfl, by rw [h1]; omega, ?_⟩
  intro i x hx
  have hl := h x (List.mem_iff_getElem?.2 ⟨i, hx⟩)
  refine ⟨hl, fun j y hy => ?_⟩
  have hj : j < s := by rw [← hl]; exact (List.getElem?_eq_some_iff.1 hy).1
  rw [← h2 i x hx, List.getElem?_take_of_lt hj, List.getElem?_drop] at hy
  rw [Nat.zero_add]
  exact hy

def prodI (l : List Int) : Int := l.foldl (fun a b => a * b) 1
def sizeI (l : List Int) : Int := if 3 < l.length then -1 else if l.all (fun x => inB x 0 300) = true then (if prodI l > 300 then -1 else prodI l) else -1
theorem prodI_snoc {l : List Int} {x : Int} : prodI (l ++ [x]) = prodI l * x := by simp [prodI]
theorem pow_step {p x : Int} {i : Nat} (hp : 0 ≤ p ∧ p ≤ 300 ^ i) (hx : 0 ≤ x ∧ x ≤ 300) : 0 ≤ p * x ∧ p * x ≤ 300 ^ (i + 1) := by
  refine ⟨Int.mul_nonneg hp.1 hx.1, ?_⟩
  rw [Int.pow_succ]
  exact Int.mul_le_mul hp.2 hx.2 hx.1 (by have := hp.1; have := hp.2; omega)
theorem pow_lim {i : Nat} (h : i ≤ 3) : (300 : Int) ^ i ≤ 27000000 := by
  match i, h with
  | 0, _ => decide
  | 1, _ => decide
  | 2, _ => decide
  | 3, _ => decide
theorem all_take_false {l : List Int} {i : Nat} {f : Int → Bool} (h : i < l.length) (hf : f l[i] = false) : l.all f = false := by
  rw [Bool.eq_false_iff]
  intro ha
  have := (List.all_eq_true.1 ha) l[i] (List.getElem_mem h)
  rw [hf] at this; cases this

theorem implSizeOf_ok {H : AH} {v : Value} {l : List Int} (hv : IntRow H v l) (hl : l.length < 4611686018427387904) : CallsA Try.prog 119 #[v] H fun r H' => r = .int .i64 (sizeI l) ∧ H' = H := by
  obtain ⟨a, c, rfl, gv⟩ := hv.op
  refine w119 ?_
  unfold k119
  simp -implicitDefEqProofs only [kz, kk0, kk1, kk2, kk3, ↓two_true, ↓two_false, oS_some, oM_some, mkv, aggAt, Nat.reduceLeDiff, Nat.reduceSub, Nat.reduceMul, implies_true, Nat.reduceEqDiff, reduceIte, Nat.reduceAdd, Nat.reduceBEq, reduceCtorEq, ix24, ld3, ln24]
  refine two_intro (fun h => ?_) (fun h => ?_)
  · have h' : 3 < l.length := by simp at h; omega
    rw [sizeI, if_pos h']
  · have h' : ¬ 3 < l.length := by simp at h; omega
    refine rW_loop (σ := Nat) (fun i tm H' => tm 9 = .slice a l.length c ∧ tm 10 = .int .i64 l.length ∧ tm 11 = .int .i64 i ∧ tm 3 = .int .i64 (prodI (l.take i)) ∧ H' = H ∧ i ≤ l.length ∧ (0 ≤ prodI (l.take i) ∧ prodI (l.take i) ≤ 300 ^ i) ∧ ∀ x ∈ l.take i, inB x 0 300 = true) (fun i => l.length - i) 0 ?_ ?_
    · simp -implicitDefEqProofs [kk0, kk1, kk2, kk3, rW_block, ↓two_true, ↓two_false, rW_cond, rO_guard, oS_some, oM_some, mkv, aggAt, Nat.reduceLeDiff, Nat.reduceSub, Nat.reduceMul, cond_true, cond_false, Option.bind_some, List.length_append, List.length_cons, List.length_nil, List.append_assoc, List.cons_append, List.nil_append, List.set_cons_zero, List.set_cons_succ, List.size_toArray, List.all_cons, List.all_nil, List.drop_zero, List.drop_succ_cons, List.take_succ_cons, List.take_zero, List.mem_cons, Prod.mk.injEq, List.not_mem_nil, implies_true, List.getElem?_toArray, List.getElem?_cons_zero, List.getElem?_cons_succ, List.getElem?_nil, Option.getD_some, Option.getD_none, Nat.reduceEqDiff, reduceIte, Nat.reduceAdd, List.map_toArray, List.map_cons, List.map_nil, Bool.false_eq_true, Nat.reduceBEq, Option.map_some, Option.map_none, reduceCtorEq, ix24, ld3, ln24, prodI]
    · rintro i tm H' ⟨h9, h10, h11, h3, rfl, hi, hp, ha⟩
      simp -implicitDefEqProofs only [kz, kk0, kk1, kk2, kk3, ↓two_true, ↓two_false, oS_some, oM_some, mkv, aggAt, Nat.reduceLeDiff, Nat.reduceSub, Nat.reduceMul, implies_true, Nat.reduceEqDiff, reduceIte, Nat.reduceAdd, Nat.reduceBEq, reduceCtorEq, ix24, ld3, ln24, h9, h10, h11, h3, within_eq]
      refine two_intro (fun hc => ?_) (fun hc => ?_)
      · have hc' : i < l.length := by simpa using hc
        obtain ⟨b, o, cs, rfl, rfl, hrd, _, hcell⟩ := gv (by omega)
        have hlim := pow_lim (i := i + 1) (by omega)
        simp -implicitDefEqProofs only [kz, kk0, kk1, kk2, kk3, ↓two_true, ↓two_false, oS_some, oM_some, mkv, aggAt, Nat.reduceLeDiff, Nat.reduceSub, Nat.reduceMul, implies_true, Nat.reduceEqDiff, reduceIte, Nat.reduceAdd, Nat.reduceBEq, reduceCtorEq, ix24, ld3, ln24, h9, h10, h11, h3, within_eq, Int.toNat_natCast, Nat.mul_one, hrd, hcell i hc', IntWalk.i64_in (↑i + 1) (by omega)]
        refine ⟨⟨by omega, by omega⟩, two_intro (fun h => ?_) (fun h => ?_)⟩
        · have hb : inB l[i] 0 300 = false := by simpa using h
          rw [sizeI, if_neg h', all_take_false hc' hb]
          simp
        · have hb : inB l[i] 0 300 = true := by simpa using h
          have hst := pow_step hp (inB_true.1 hb)
          have e1 : prodI (l.take (i + 1)) = prodI (l.take i) * l[i] := by rw [List.take_succ_eq_append_getElem hc', prodI_snoc]
          rw [IntWalk.i64_in (prodI (l.take i) * l[i]) (by omega)]
          refine ⟨i + 1, by omega, by simp, by rw [e1], hc', by rw [e1]; exact hst, ?_⟩
          intro x hx
          rw [List.take_succ_eq_append_getElem hc'] at hx
          rcases List.mem_append.1 hx with hx | hx
          · exact ha x hx
          · rw [List.mem_singleton.1 hx]; exact hb
      · have hc' : ¬ i < l.length := by simpa using hc
        have hil : i = l.length := by omega
        subst hil
        rw [List.take_length] at ha ⊢
        have hall : l.all (fun x => inB x 0 300) = true := List.all_eq_true.2 ha
        refine two_intro (fun h => ?_) (fun h => ?_)
        · rw [sizeI, if_neg h', if_pos hall, if_pos (by simpa using h)]
        · rw [sizeI, if_neg h', if_pos hall, if_neg (by simpa using h)]
theorem foldl_mul : ∀ (l : List Int) (a : Int), l.foldl (fun a b => a * b) a = a * prodI l
  | [], a => by simp [prodI]
  | x :: l, a => by
    show l.foldl (fun a b => a * b) (a * x) = a * (l.foldl (fun a b => a * b) (1 * x))
    rw [foldl_mul l (a * x), foldl_mul l (1 * x), Int.one_mul, Int.mul_assoc]
theorem prodI_cons {x : Int} {l : List Int} : prodI (x :: l) = x * prodI l := by
  show l.foldl (fun a b => a * b) (1 * x) = _
  rw [foldl_mul, Int.one_mul]
theorem prodI_zero : ∀ (l : List Int), l.any (fun x => x == 0) = true → prodI l = 0
  | [], h => by simp at h
  | x :: l, h => by
    rw [prodI_cons]
    simp only [List.any_cons, Bool.or_eq_true, beq_iff_eq] at h
    rcases h with h | h
    · rw [h, Int.zero_mul]
    · rw [prodI_zero l h, Int.mul_zero]

theorem specSizeOf_ok {H : AH} {v : Value} {l : List Int} (hv : IntRow H v l) (hl : l.length < 4611686018427387904) : CallsA Try.prog 136 #[v] H fun r H' => r = .int .i64 (sizeI l) ∧ H' = H := by
  obtain ⟨a, c, rfl, gv⟩ := hv.op
  refine w136 ?_
  unfold k136
  simp -implicitDefEqProofs only [kz, kk0, kk1, kk2, kk3, ↓two_true, ↓two_false, oS_some, oM_some, mkv, aggAt, Nat.reduceLeDiff, Nat.reduceSub, Nat.reduceMul, implies_true, Nat.reduceEqDiff, reduceIte, Nat.reduceAdd, Nat.reduceBEq, reduceCtorEq, ix24, ld3, ln24]
  refine two_intro (fun h => ?_) (fun h => ?_)
  · have h' : 3 < l.length := by simp at h; omega
    rw [sizeI, if_pos h']
  · have h' : ¬ 3 < l.length := by simp at h; omega
    refine rW_loop (σ := Nat) (fun i tm H' => tm 0 = .slice a l.length c ∧ tm 4 = .int .i64 i ∧ tm 3 = .bool ((l.take i).any fun x => x == 0) ∧ H' = H ∧ i ≤ l.length ∧ ∀ x ∈ l.take i, inB x 0 300 = true) (fun i => l.length - i) 0 ?_ ?_
    · simp -implicitDefEqProofs [kk0, kk1, kk2, kk3, rW_block, ↓two_true, ↓two_false, rW_cond, rO_guard, oS_some, oM_some, mkv, aggAt, Nat.reduceLeDiff, Nat.reduceSub, Nat.reduceMul, cond_true, cond_false, Option.bind_some, List.length_append, List.length_cons, List.length_nil, List.append_assoc, List.cons_append, List.nil_append, List.set_cons_zero, List.set_cons_succ, List.size_toArray, List.all_cons, List.all_nil, List.drop_zero, List.drop_succ_cons, List.take_succ_cons, List.take_zero, List.mem_cons, Prod.mk.injEq, List.not_mem_nil, implies_true, List.getElem?_toArray, List.getElem?_cons_zero, List.getElem?_cons_succ, List.getElem?_nil, Option.getD_some, Option.getD_none, Nat.reduceEqDiff, reduceIte, Nat.reduceAdd, List.map_toArray, List.map_cons, List.map_nil, Bool.false_eq_true, Nat.reduceBEq, Option.map_some, Option.map_none, reduceCtorEq, ix24, ld3, ln24]
    · rintro i tm H' ⟨h0, h4, h3, rfl, hi, ha⟩
      simp -implicitDefEqProofs only [kz, kk0, kk1, kk2, kk3, ↓two_true, ↓two_false, oS_some, oM_some, mkv, aggAt, Nat.reduceLeDiff, Nat.reduceSub, Nat.reduceMul, implies_true, Nat.reduceEqDiff, reduceIte, Nat.reduceAdd, Nat.reduceBEq, reduceCtorEq, ix24, ld3, ln24, h0, h3, h4, l1In_eq]
      refine two_intro (fun hc => ?_) (fun hc => ?_)
      · have hc' : i < l.length := by simpa using hc
        obtain ⟨b, o, cs, rfl, rfl, hrd, _, hcell⟩ := gv (by omega)
        simp -implicitDefEqProofs only [kz, kk0, kk1, kk2, kk3, ↓two_true, ↓two_false, oS_some, oM_some, mkv, aggAt, Nat.reduceLeDiff, Nat.reduceSub, Nat.reduceMul, implies_true, Nat.reduceEqDiff, reduceIte, Nat.reduceAdd, Nat.reduceBEq, reduceCtorEq, ix24, ld3, ln24, h0, h3, h4, l1In_eq, Int.toNat_natCast, Nat.mul_one, hrd, hcell i hc', IntWalk.i64_in (↑i + 1) (by omega)]
        refine ⟨⟨by omega, by omega⟩, two_intro (fun h => ?_) (fun h => ?_)⟩
        · have hb : inB l[i] 0 300 = false := by simpa using h
          rw [sizeI, if_neg h', all_take_false hc' hb]
          simp
        · have hb : inB l[i] 0 300 = true := by simpa using h
          have e1 : ((l.take (i + 1)).any fun x => x == 0) = (((l.take i).any fun x => x == 0) || l[i] == 0) := by rw [List.take_succ_eq_append_getElem hc']; simp only [List.any_append, List.any_cons, List.any_nil, Bool.or_false]
          have e2 : ∀ x ∈ l.take (i + 1), inB x 0 300 = true := by
            intro x hx
            rw [List.take_succ_eq_append_getElem hc'] at hx
            rcases List.mem_append.1 hx with hx | hx
            · exact ha x hx
            · rw [List.mem_singleton.1 hx]; exact hb
          refine two_intro (fun h2 => ?_) (fun h2 => ?_)
          · exact ⟨i + 1, by omega, by simp, by rw [e1, h2]; rfl, hc', e2⟩
          · exact ⟨⟨by omega, by omega⟩, i + 1, by omega, by simp, by rw [e1, h2]; rfl, hc', e2⟩
      · have hc' : ¬ i < l.length := by simpa using hc
        have hil : i = l.length := by omega
        subst hil
        rw [List.take_length] at ha h3
        have hall : l.all (fun x => inB x 0 300) = true := List.all_eq_true.2 ha
        refine rW_loop (σ := Nat) (fun i tm H'' => tm 0 = .slice a l.length c ∧ tm 6 = .int .i64 i ∧ tm 3 = .bool (l.any fun x => x == 0) ∧ tm 5 = .int .i64 (prodI (l.take i)) ∧ H'' = H' ∧ i ≤ l.length ∧ (0 ≤ prodI (l.take i) ∧ prodI (l.take i) ≤ 300 ^ i)) (fun i => l.length - i) 0 ?_ ?_
        · simp -implicitDefEqProofs [kk0, kk1, kk2, kk3, rW_block, ↓two_true, ↓two_false, rW_cond, rO_guard, oS_some, oM_some, mkv, aggAt, Nat.reduceLeDiff, Nat.reduceSub, Nat.reduceMul, cond_true, cond_false, Option.bind_some, List.length_append, List.length_cons, List.length_nil, List.append_assoc, List.cons_append, List.nil_append, List.set_cons_zero, List.set_cons_succ, List.size_toArray, List.all_cons, List.all_nil, List.drop_zero, List.drop_succ_cons, List.take_succ_cons, List.take_zero, List.mem_cons, Prod.mk.injEq, List.not_mem_nil, implies_true, List.getElem?_toArray, List.getElem?_cons_zero, List.getElem?_cons_succ, List.getElem?_nil, Option.getD_some, Option.getD_none, Nat.reduceEqDiff, reduceIte, Nat.reduceAdd, List.map_toArray, List.map_cons, List.map_nil, Bool.false_eq_true, Nat.reduceBEq, Option.map_some, Option.map_none, reduceCtorEq, ix24, ld3, ln24, h0, h3, prodI]
        · clear h0 h3 h4
          rintro i tm H2 ⟨h0, h6, h3, h5, rfl, hi, hp⟩
          simp -implicitDefEqProofs only [kz, kk0, kk1, kk2, kk3, ↓two_true, ↓two_false, oS_some, oM_some, mkv, aggAt, Nat.reduceLeDiff, Nat.reduceSub, Nat.reduceMul, implies_true, Nat.reduceEqDiff, reduceIte, Nat.reduceAdd, Nat.reduceBEq, reduceCtorEq, ix24, ld3, ln24, h0, h3, h5, h6]
          refine two_intro (fun hc => ?_) (fun hc => ?_)
          · have hc' : i < l.length := by simpa using hc
            obtain ⟨b, o, cs, rfl, rfl, hrd, _, hcell⟩ := gv (by omega)
            have hlim := pow_lim (i := i + 1) (by omega)
            have hst := pow_step hp (inB_true.1 (ha l[i] (List.getElem_mem hc')))
            have e1 : prodI (l.take (i + 1)) = prodI (l.take i) * l[i] := by rw [List.take_succ_eq_append_getElem hc', prodI_snoc]
            simp -implicitDefEqProofs only [kz, kk0, kk1, kk2, kk3, ↓two_true, ↓two_false, oS_some, oM_some, mkv, aggAt, Nat.reduceLeDiff, Nat.reduceSub, Nat.reduceMul, implies_true, Nat.reduceEqDiff, reduceIte, Nat.reduceAdd, Nat.reduceBEq, reduceCtorEq, ix24, ld3, ln24, h0, h3, h5, h6, Int.toNat_natCast, Nat.mul_one, hrd, hcell i hc', IntWalk.i64_in (↑i + 1) (by omega), IntWalk.i64_in (prodI (l.take i) * l[i]) (by omega)]
            exact ⟨⟨by omega, by omega⟩, i + 1, by omega, by simp, by rw [e1], hc', by rw [e1]; exact hst⟩
          · have hc' : ¬ i < l.length := by simpa using hc
            have hil : i = l.length := by omega
            subst hil
            rw [List.take_length] at h5 ⊢
            rw [sizeI, if_neg h', if_pos hall]
            refine two_intro (fun h => ?_) (fun h => ?_)
            · refine two_intro (fun h2 => ?_) (fun h2 => ?_)
              · rw [if_pos (by simpa using h)]
              · have := prodI_zero l (by simpa using h2)
                rw [this] at h
                simp at h
            · rw [if_neg (by simpa using h)]
def arrOk (sh dt : List Int) : Bool := ((dt.length : Int) == sizeI sh) && dt.all numOk
theorem any_not {l : List Int} : (l.any fun x => !numOk x) = !l.all numOk := List.not_all_eq_any_not.symm
def idxF {α : Type} (p : α → Bool) (l : List α) : Int := match l.findIdx? p with | some i => i | none => -1
theorem idxF_some {α : Type} {p : α → Bool} {l : List α} {i : Nat} (hi : i < l.length) (h : p l[i] = true) (hn : ∀ x ∈ l.take i, p x = false) : idxF p l = i := by
  have : l.findIdx? p = some i := by
    rw [List.findIdx?_eq_some_iff_getElem]
    refine ⟨hi, h, fun j hj => ?_⟩
    have hji : j < l.length := by omega
    have := hn l[j] (List.mem_iff_getElem?.2 ⟨j, by rw [List.getElem?_take_of_lt hj, List.getElem?_eq_getElem hji]⟩)
    simp [this]
  simp [idxF, this]
theorem idxF_none {α : Type} {p : α → Bool} {l : List α} (hn : ∀ x ∈ l, p x = false) : idxF p l = -1 := by
  have : l.findIdx? p = none := by
    rw [List.findIdx?_eq_none_iff]; exact hn
  simp [idxF, this]
theorem idxF_any {α : Type} {p : α → Bool} {l : List α} : decide (idxF p l ≥ 0) = l.any p := by
  cases h : l.findIdx? p with
  | none =>
    have h2 := List.findIdx?_eq_none_iff.1 h
    have : l.any p = false := by
      rw [Bool.eq_false_iff]
      intro ha
      obtain ⟨x, hx, hp⟩ := List.any_eq_true.1 ha
      rw [h2 x hx] at hp; cases hp
    simp [idxF, h, this]
  | some i =>
    obtain ⟨hi, hp, _⟩ := List.findIdx?_eq_some_iff_getElem.1 h
    have : l.any p = true := List.any_eq_true.2 ⟨l[i], List.getElem_mem hi, hp⟩
    simp [idxF, h, this]

theorem indexFuncI_ok {H : AH} {v : Value} {l : List Int} {g : FuncId} {p : Int → Bool} (hv : IntRow H v l) (hl : l.length < 4611686018427387904) (hp : ∀ x (H : AH) (Φ : Value → AH → Prop), CallsA Try.prog g #[.int .i64 x] H Φ = Φ (.bool (p x)) H) :
    CallsA Try.prog 170 #[v, .func (.func g) #[] #[]] H fun r H' => r = .int .i64 (idxF p l) ∧ H' = H := by
  obtain ⟨a, c, rfl, gv⟩ := hv.op
  refine w170 ?_
  unfold k170
  simp -implicitDefEqProofs only [kz, kk0, kk1, kk2, kk3, ↓two_true, ↓two_false, oS_some, oM_some, mkv, aggAt, Nat.reduceLeDiff, Nat.reduceSub, Nat.reduceMul, implies_true, Nat.reduceEqDiff, reduceIte, Nat.reduceAdd, Nat.reduceBEq, reduceCtorEq, ix24, ld3, ln24]
  refine rW_loop (σ := Nat) (fun i tm H' => tm 0 = .slice a l.length c ∧ tm 1 = .func (.func g) #[] #[] ∧ tm 7 = .int .i64 l.length ∧ tm 8 = .int .i64 i ∧ H' = H ∧ i ≤ l.length ∧ ∀ x ∈ l.take i, p x = false) (fun i => l.length - i) 0 ?_ ?_
  · simp -implicitDefEqProofs [kk0, kk1, kk2, kk3, rW_block, ↓two_true, ↓two_false, rW_cond, rO_guard, oS_some, oM_some, mkv, aggAt, Nat.reduceLeDiff, Nat.reduceSub, Nat.reduceMul, cond_true, cond_false, Option.bind_some, List.length_append, List.length_cons, List.length_nil, List.append_assoc, List.cons_append, List.nil_append, List.set_cons_zero, List.set_cons_succ, List.size_toArray, List.all_cons, List.all_nil, List.drop_zero, List.drop_succ_cons, List.take_succ_cons, List.take_zero, List.mem_cons, Prod.mk.injEq, List.not_mem_nil, implies_true, List.getElem?_toArray, List.getElem?_cons_zero, List.getElem?_cons_succ, List.getElem?_nil, Option.getD_some, Option.getD_none, Nat.reduceEqDiff, reduceIte, Nat.reduceAdd, List.map_toArray, List.map_cons, List.map_nil, Bool.false_eq_true, Nat.reduceBEq, Option.map_some, Option.map_none, reduceCtorEq, ix24, ld3, ln24]
  · rintro i tm H' ⟨h0, h1, h7, h8, rfl, hi, hn⟩
    simp -implicitDefEqProofs only [kz, kk0, kk1, kk2, kk3, ↓two_true, ↓two_false, oS_some, oM_some, mkv, aggAt, Nat.reduceLeDiff, Nat.reduceSub, Nat.reduceMul, implies_true, Nat.reduceEqDiff, reduceIte, Nat.reduceAdd, Nat.reduceBEq, reduceCtorEq, ix24, ld3, ln24, h0, h1, h7, h8]
    refine two_intro (fun hc => ?_) (fun hc => ?_)
    · have hc' : i < l.length := by simpa using hc
      obtain ⟨b, o, cs, rfl, rfl, hrd, _, hcell⟩ := gv (by omega)
      simp -implicitDefEqProofs only [kz, kk0, kk1, kk2, kk3, ↓two_true, ↓two_false, oS_some, oM_some, mkv, aggAt, Nat.reduceLeDiff, Nat.reduceSub, Nat.reduceMul, implies_true, Nat.reduceEqDiff, reduceIte, Nat.reduceAdd, Nat.reduceBEq, reduceCtorEq, ix24, ld3, ln24, h0, h1, h7, h8, Int.toNat_natCast, Nat.mul_one, hrd, hcell i hc', Array.empty_append, Array.append_empty, hp, IntWalk.i64_in (↑i + 1) (by omega)]
      refine ⟨⟨by omega, by omega⟩, two_intro (fun h => ?_) (fun h => ?_)⟩
      · rw [idxF_some hc' h hn]
      · refine ⟨i + 1, by omega, by simp, hc', ?_⟩
        intro x hx
        rw [List.take_succ_eq_append_getElem hc'] at hx
        rcases List.mem_append.1 hx with hx | hx
        · exact hn x hx
        · rw [List.mem_singleton.1 hx]; exact h
    · have hc' : ¬ i < l.length := by simpa using hc
      have hil : i = l.length := by omega
      subst hil
      rw [List.take_length] at hn
      rw [idxF_none hn]

theorem containsFuncI_ok {H : AH} {v : Value} {l : List Int} {g : FuncId} {p : Int → Bool} (hv : IntRow H v l) (hl : l.length < 4611686018427387904) (hp : ∀ x (H : AH) (Φ : Value → AH → Prop), CallsA Try.prog g #[.int .i64 x] H Φ = Φ (.bool (p x)) H) :
    CallsA Try.prog 128 #[v, .func (.func g) #[] #[]] H fun r H' => r = .bool (l.any p) ∧ H' = H := by
  have e := fun Φ => (indexFuncI_ok hv hl hp).eq0 (Φ := Φ)
  refine w128 ?_
  unfold k128
  simp -implicitDefEqProofs only [kz, kk0, kk1, kk2, kk3, ↓two_true, ↓two_false, oS_some, oM_some, mkv, aggAt, Nat.reduceLeDiff, Nat.reduceSub, Nat.reduceMul, implies_true, Nat.reduceEqDiff, reduceIte, Nat.reduceAdd, Nat.reduceBEq, reduceCtorEq, e, idxF_any]

theorem arrayOk1_eq {x : Int} {H : AH} {Φ : Value → AH → Prop} : CallsA Try.prog 129 #[.int .i64 x] H Φ = Φ (.bool (!numOk x)) H := by
  have : CallsA Try.prog 129 #[.int .i64 x] H fun r H' => r = .bool (!numOk x) ∧ H' = H := by
    refine w129 ?_
    unfold k129
    simp -implicitDefEqProofs only [kz, kk0, kk1, kk2, kk3, ↓two_true, ↓two_false, oS_some, oM_some, mkv, aggAt, Nat.reduceLeDiff, Nat.reduceSub, Nat.reduceMul, implies_true, Nat.reduceEqDiff, reduceIte, Nat.reduceAdd, Nat.reduceBEq, reduceCtorEq, implNumOk_eq]
  exact this.eq0
theorem implArrayOk_ok {H : AH} {p q : Value} {m l : List Int} (hp : IntRow H p m) (hq : IntRow H q l) (l1 : m.length < 4611686018427387904) (l2 : l.length < 4611686018427387904) :
    CallsA Try.prog 56 #[.agg #[p, q]] H fun r H' => r = .bool (arrOk m l) ∧ ∃ K, H' = H ++ K := by
  have ec := fun (L : AH) Φ => (containsFuncI_ok (H := H ++ L) (l := l) (IntRow.mono hq) l2 (fun x H Φ => arrayOk1_eq)).eq0 (Φ := Φ)
  have es := fun (L : AH) Φ => (implSizeOf_ok (H := H ++ L) (l := m) (IntRow.mono hp) l1).eq0 (Φ := Φ)
  obtain ⟨a, c, rfl, _⟩ := hq.op
  refine w56 ?_
  unfold k56
  simp -implicitDefEqProofs only [kz, kk0, kk1, kk2, kk3, ↓two_true, ↓two_false, oS_some, oM_some, mkv, aggAt, Nat.reduceLeDiff, Nat.reduceSub, Nat.reduceMul, implies_true, Nat.reduceEqDiff, reduceIte, Nat.reduceAdd, Nat.reduceBEq, reduceCtorEq, fa26_0, fa26_1, ld24, ln24, es, ec]
  refine two_intro (fun h => ⟨by rw [any_not, arrOk, h]; simp, _, rfl⟩) (fun h => ⟨by rw [arrOk, h]; rfl, _, rfl⟩)

theorem specArrayOk_ok {H : AH} {p q : Value} {m l : List Int} (hp : IntRow H p m) (hq : IntRow H q l) (l1 : m.length < 4611686018427387904) (l2 : l.length < 4611686018427387904) :
    CallsA Try.prog 65 #[.agg #[p, q]] H fun r H' => r = .bool (((l.length : Int) == sizeI m) && l.all numOk) ∧ ∃ K, H' = H ++ K := by
  have es := fun (L : AH) Φ => (specSizeOf_ok (H := H ++ L) (l := m) (IntRow.mono hp) l1).eq0 (Φ := Φ)
  obtain ⟨a, c, rfl, gq⟩ := hq.op
  refine w65 ?_
  unfold k65
  simp -implicitDefEqProofs only [kz, kk0, kk1, kk2, kk3, ↓two_true, ↓two_false, oS_some, oM_some, mkv, aggAt, Nat.reduceLeDiff, Nat.reduceSub, Nat.reduceMul, implies_true, Nat.reduceEqDiff, reduceIte, Nat.reduceAdd, Nat.reduceBEq, reduceCtorEq, fa26_0, fa26_1, ix24, ld3, ld24, ln24, es]
  refine two_intro (fun h => ?_) (fun h => ?_)
  · have : ((l.length : Int) == sizeI m) = false := by
      rw [beq_eq_false_iff_ne]
      rintro e
      simp [e] at h
    exact ⟨by rw [this]; rfl, _, rfl⟩
  · have hsz : ((l.length : Int) == sizeI m) = true := by
      rw [beq_iff_eq]
      simp at h
      exact h.symm
    refine rW_loop (σ := Nat) (fun i tm H' => tm 1 = .pointer (some ⟨H.length, 0, none⟩) ∧ tm 3 = .int .i64 i ∧ H' = H ++ [⟨[p, .slice a l.length c], .own⟩] ∧ i ≤ l.length ∧ ∀ x ∈ l.take i, numOk x = true) (fun i => l.length - i) 0 ?_ ?_
    · simp -implicitDefEqProofs [kk0, kk1, kk2, kk3, rW_block, ↓two_true, ↓two_false, rW_cond, rO_guard, oS_some, oM_some, mkv, aggAt, Nat.reduceLeDiff, Nat.reduceSub, Nat.reduceMul, cond_true, cond_false, Option.bind_some, List.length_append, List.length_cons, List.length_nil, List.append_assoc, List.cons_append, List.nil_append, List.set_cons_zero, List.set_cons_succ, List.size_toArray, List.all_cons, List.all_nil, List.drop_zero, List.drop_succ_cons, List.take_succ_cons, List.take_zero, List.mem_cons, Prod.mk.injEq, List.not_mem_nil, implies_true, List.getElem?_toArray, List.getElem?_cons_zero, List.getElem?_cons_succ, List.getElem?_nil, Option.getD_some, Option.getD_none, Nat.reduceEqDiff, reduceIte, Nat.reduceAdd, List.map_toArray, List.map_cons, List.map_nil, Bool.false_eq_true, Nat.reduceBEq, Option.map_some, Option.map_none, reduceCtorEq, fa26_0, fa26_1, ix24, ld3, ld24, ln24]
    · rintro i tm H' ⟨h1, h3, rfl, hi, hn⟩
      simp -implicitDefEqProofs only [kz, kk0, kk1, kk2, kk3, ↓two_true, ↓two_false, oS_some, oM_some, mkv, aggAt, Nat.reduceLeDiff, Nat.reduceSub, Nat.reduceMul, implies_true, Nat.reduceEqDiff, reduceIte, Nat.reduceAdd, Nat.reduceBEq, reduceCtorEq, fa26_0, fa26_1, ix24, ld3, ld24, ln24, h1, h3]
      refine two_intro (fun hc => ?_) (fun hc => ?_)
      · have hc' : i < l.length := by simpa using hc
        obtain ⟨b, o, cs, rfl, rfl, hrd, _, hcell⟩ := gq (by omega)
        have hrd2 : rd (H ++ [⟨[p, .slice (some ⟨b, o, none⟩) l.length 1], .own⟩]) b = some cs := by rw [rdl (by simp [hrd]), hrd]
        simp -implicitDefEqProofs only [kz, kk0, kk1, kk2, kk3, ↓two_true, ↓two_false, oS_some, oM_some, mkv, aggAt, Nat.reduceLeDiff, Nat.reduceSub, Nat.reduceMul, implies_true, Nat.reduceEqDiff, reduceIte, Nat.reduceAdd, Nat.reduceBEq, reduceCtorEq, fa26_0, fa26_1, ix24, ld3, ld24, ln24, h1, h3, Int.toNat_natCast, Nat.mul_one, hrd2, hcell i hc', specNumOk_eq, IntWalk.i64_in (↑i + 1) (by omega)]
        refine ⟨⟨by omega, by omega⟩, two_intro (fun h => ?_) (fun h => ?_)⟩
        · have hb : numOk l[i] = false := by simpa using h
          refine ⟨?_, _, rfl⟩
          rw [all_take_false hc' hb, Bool.and_false]
        · refine ⟨i + 1, by omega, by simp, hc', ?_⟩
          intro x hx
          rw [List.take_succ_eq_append_getElem hc'] at hx
          rcases List.mem_append.1 hx with hx | hx
          · exact hn x hx
          · rw [List.mem_singleton.1 hx]; simpa using h
      · have hc' : ¬ i < l.length := by simpa using hc
        have hil : i = l.length := by omega
        subst hil
        rw [List.take_length] at hn
        refine ⟨?_, _, rfl⟩
        rw [hsz, List.all_eq_true.2 hn]
        rfl

theorem Rp.slice {P : Program} {H : AH} {k : Nat} {t e : TypeId} {vs : List Value} (hu : P.underlying t = some (.slice e)) (h : Rp P H k t vs) :
    vs = [.slice none 0 0] ∨ ∃ b n cs, vs = [.slice (some ⟨b, 0, none⟩) n (P.cellsOf e)] ∧ H[b]? = some ⟨cs, .ro⟩ ∧ cs.length = n * P.cellsOf e ∧ n ≤ maxLen ∧ ∃ k, ∀ i, i < n → Rp P H k e ((cs.drop (i * P.cellsOf e)).take (P.cellsOf e)) := by
  cases k with
  | zero => exact h.elim
  | succ k =>
    simp only [Rp, hu] at h
    rcases h with h | ⟨b, n, cs, h1, h2, h3, h4, h5⟩
    · exact .inl h
    · exact .inr ⟨b, n, cs, h1, h2, h3, h4, k, h5⟩
theorem rd_ro {H : AH} {b : Nat} {cs : List Value} (h : H[b]? = some ⟨cs, .ro⟩) : rd H b = some cs := by simp [rd, h, rdB]
theorem Rp.ints {P : Program} {H : AH} {k : Nat} {t e : TypeId} {vs : List Value} (hu : P.underlying t = some (.slice e)) (he : P.underlying e = some (.int .i64)) (hc : P.cellsOf e = 1) (h : Rp P H k t vs) :
    ∃ v l, vs = [v] ∧ IntRow H v l ∧ l.length ≤ 9223372036854775807 ∧ ∀ x ∈ l, I64 x := by
  rcases h.slice hu with rfl | ⟨b, n, cs, rfl, h2, h3, h4, k, h5⟩
  · exact ⟨_, [], rfl, .inl ⟨rfl, rfl⟩, by simp, by simp⟩
  · rw [hc, Nat.mul_one] at h3
    have key : ∀ i (hi : i < cs.length), ∃ m, cs[i] = .int .i64 m ∧ I64 m := by
      intro i hi
      have h6 := h5 i (by omega)
      rw [hc, Nat.mul_one] at h6
      obtain ⟨m, h7, h8⟩ := h6.int he
      have h9 : ((cs.drop i).take 1)[0]? = some cs[i] := by
        rw [List.getElem?_take_of_lt (by decide), List.getElem?_drop, Nat.add_zero, List.getElem?_eq_getElem hi]
      rw [h7] at h9
      simp at h9
      exact ⟨m, h9.symm, wf_i64 h8⟩
    have hmap : cs = Go.Proofs.Ytockhdhilemfkaa.AM.ints (cs.map toI) := by
      refine List.ext_getElem (by simp [Go.Proofs.Ytockhdhilemfkaa.AM.ints]) fun i h1 h2 => ?_
      obtain ⟨m, h3, _⟩ := key i h1
      simp [Go.Proofs.Ytockhdhilemfkaa.AM.ints, h3, toI]
    refine ⟨_, cs.map toI, rfl, .inr ⟨b, 0, cs, by simp [h3, hc], rd_ro h2, by simp, ?_⟩, ?_, ?_⟩
    · rw [List.drop_zero, List.length_map, List.take_of_length_le (Nat.le_refl _)]
      exact hmap
    · simp only [List.length_map, h3]
      have : maxLen = 9223372036854775807 := by decide
      omega
    · intro x hx
      obtain ⟨y, hy, rfl⟩ := List.mem_map.1 hx
      obtain ⟨i, hi, rfl⟩ := List.mem_iff_getElem.1 hy
      obtain ⟨m, h6, h7⟩ := key i hi
      rw [h6]; exact h7
theorem Rp.bool {P : Program} {H : AH} {k : Nat} {t : TypeId} {vs : List Value} (hu : P.underlying t = some .bool) (h : Rp P H k t vs) : ∃ b, vs = [.bool b] := by
  cases k with
  | zero => exact h.elim
  | succ k => simpa only [Rp, hu] using h

theorem All2.append {H : AH} : ∀ {ks ks' : List CK} {x x' : List Value}, All2 H ks x → All2 H ks' x' → All2 H (ks ++ ks') (x ++ x')
  | [], _, x, _, h, h' => by cases h; exact h'
  | k :: ks, _, x, _, ⟨y, r, e, h1, h2⟩, h' => by subst e; exact ⟨y, _, rfl, h1, h2.append h'⟩
/-- How many numbers stand in the rows of some cells. -/
def rsum1 : CV → Nat | .r l => l.length | _ => 0
def rsum (l : List CV) : Nat := (l.map rsum1).sum
theorem rsum_append {l m : List CV} : rsum (l ++ m) = rsum l + rsum m := by simp [rsum]
theorem rsum_take {l : List CV} {p : Nat} : rsum (l.take p) ≤ rsum l := by
  have : rsum l = rsum (l.take p) + rsum (l.drop p) := by rw [← rsum_append, List.take_append_drop]
  omega
theorem splice_take_eq {xs x : List Value} {p : Nat} (h : p + x.length ≤ xs.length) : splice xs p x = xs.take p ++ x ++ xs.drop (p + x.length) := by
  refine List.ext_getElem? fun i => ?_
  rw [splice_get x xs p i h]
  have hl : (xs.take p).length = p := by simp; omega
  split
  · rename_i hi
    rw [List.append_assoc, List.getElem?_append_right (by omega), hl, List.getElem?_append_left (by omega)]
  · rename_i hi
    rcases Nat.lt_or_ge i p with h1 | h1
    · rw [List.append_assoc, List.getElem?_append_left (by omega), List.getElem?_take_of_lt h1]
    · rw [List.getElem?_append_right (by simp; omega), List.getElem?_drop]
      congr 1
      simp
      omega
/-- A whole element is written. -/
theorem New.put {H0 H1 H : AH} {ks : List CK} {n b i : Nat} {ys x : List Value} (s : Nat) (hs : ks.length = s) (h : New H0 H1 (.slice (some ⟨b, 0, none⟩) n s) ks n ys) (he : ∃ K, H = H1 ++ K) (hi : i < n) (hx : All2 H ks x) (ho : ∀ y ∈ x, OwnC H y) (hf : ∀ y ∈ x, ∀ b, blkOf y = some b → H1.length ≤ b)
    (hdj : x.Pairwise Dj) (h0 : H0.length ≤ H1.length) :
    ∃ cs, H[b]? = some ⟨cs, .own⟩ ∧ i * s + s ≤ cs.length ∧ New H0 (H.set b ⟨splice cs (0 + i * s) x, .own⟩) (.slice (some ⟨b, 0, none⟩) n s) ks n (splice ys (i * s) x) ∧
      (cvs (H.set b ⟨splice cs (0 + i * s) x, .own⟩) (splice ys (i * s) x)).take ((i + 1) * s) = (cvs H1 ys).take (i * s) ++ x.map (cv H) := by
  subst hs
  have hot := h.ot
  obtain ⟨K, rfl⟩ := he
  have hot2 := h.ot.mono (L := K)
  have hr := row_lt (s := ks.length) hi
  have hxl := hx.len
  have hyl := hot.len
  rcases hot2.row with ⟨h1, _⟩ | ⟨b', o', cs, h1, h2, h3, h4⟩
  · cases h1
  simp only [Value.slice.injEq, Option.some.injEq, Addr.mk.injEq] at h1
  obtain ⟨⟨rfl, rfl, _⟩, _, _⟩ := h1
  have hb1 : b < H1.length := hot.lt b (.inl rfl)
  refine ⟨cs, h2, by omega, ?_, ?_⟩
  all_goals
    have hs2 : ∀ g, g ≠ b → ((H1 ++ K).set b ⟨splice cs (0 + i * ks.length) x, .own⟩)[g]? = (H1 ++ K)[g]? := fun g hg => List.getElem?_set_ne (Ne.symm hg)
    have hget : ∀ (j : Nat) y, (splice ys (i * ks.length) x)[j]? = some y → (i * ks.length ≤ j ∧ j < i * ks.length + ks.length ∧ x[j - i * ks.length]? = some y) ∨ (¬ (i * ks.length ≤ j ∧ j < i * ks.length + ks.length) ∧ ys[j]? = some y) := by
      intro j y hy
      rw [splice_get x ys _ j (by omega), hxl] at hy
      split at hy
      · rename_i hj; exact .inl ⟨hj.1, hj.2, hy⟩
      · rename_i hj; exact .inr ⟨hj, hy⟩
    have hcell : ∀ y, (y ∈ x ∨ y ∈ ys) → ∀ g, blkOf y = some g → ((H1 ++ K).set b ⟨splice cs (0 + i * ks.length) x, .own⟩)[g]? = (H1 ++ K)[g]? := by
      intro y hy g hg
      refine hs2 g ?_
      rintro rfl
      rcases hy with hy | hy
      · have := hf y hy g hg; omega
      · obtain ⟨j, hj⟩ := List.mem_iff_getElem?.1 hy
        exact hot.out j y hj g rfl hg
  · refine ⟨⟨by rw [splice_length]; exact hyl, .inr ⟨b, 0, _, rfl, set_at h2, by rw [splice_length]; omega, ?_⟩, ?_, ?_, ?_, ?_⟩, ?_⟩
    · intro j y hy
      rw [splice_get x cs _ _ (by omega), hxl]
      rcases hget j y hy with ⟨a1, a2, a3⟩ | ⟨a1, a2⟩
      · rw [if_pos (by omega), show 0 + j - (0 + i * ks.length) = j - i * ks.length by omega]; exact a3
      · rw [if_neg (by omega)]; exact h4 j y a2
    · intro i' c k y hi' hk hy
      have hc := (List.getElem?_eq_some_iff.1 hk).1
      rcases hget _ y hy with ⟨a1, a2, a3⟩ | ⟨a1, a2⟩
      · have e : i' = i := by
          rcases Nat.lt_trichotomy i' i with h5 | h5 | h5
          · have := row_lt (s := ks.length) h5; omega
          · exact h5
          · have := row_lt (s := ks.length) h5; omega
        subst e
        rw [Nat.add_sub_cancel_left] at a3
        exact (hx.get c k y hk a3).same fun g hg => get_rd (hcell y (.inl (List.mem_of_getElem? a3)) g hg)
      · exact (hot2.ok i' c k y hi' hk a2).same fun g hg => get_rd (hcell y (.inr (List.mem_of_getElem? a2)) g hg)
    · intro j y hy
      rcases hget j y hy with ⟨a1, a2, a3⟩ | ⟨a1, a2⟩
      · exact (ho y (List.mem_of_getElem? a3)).same (hcell y (.inl (List.mem_of_getElem? a3)))
      · exact (hot2.own j y a2).same (hcell y (.inr (List.mem_of_getElem? a2)))
    · intro j y hy g hg hg2
      simp [blkOf] at hg
      subst hg
      rcases hget j y hy with ⟨a1, a2, a3⟩ | ⟨a1, a2⟩
      · have := hf y (List.mem_of_getElem? a3) b hg2; omega
      · exact hot.out j y a2 b rfl hg2
    · intro j j' y z hjj hy hz
      have cross : ∀ y z, y ∈ x → z ∈ ys → Dj y z := fun y z hy hz g hg hg2 => by
        have := hf y hy g hg; have := hot.lt g (.inr ⟨z, hz, hg2⟩); omega
      rcases hget j y hy with ⟨a1, a2, a3⟩ | ⟨a1, a2⟩ <;> rcases hget j' z hz with ⟨b1, b2, b3⟩ | ⟨b1, b2⟩
      · exact pw_get hdj _ _ y z (by omega) a3 b3
      · exact cross y z (List.mem_of_getElem? a3) (List.mem_of_getElem? b2)
      · exact (cross z y (List.mem_of_getElem? b3) (List.mem_of_getElem? a2)).symm
      · exact hot.dif j j' y z hjj a2 b2
    · rintro g (hg | ⟨y, hy, hg⟩)
      · exact h.fr g (.inl hg)
      · obtain ⟨j, hj⟩ := List.mem_iff_getElem?.1 hy
        rcases hget j y hj with ⟨a1, a2, a3⟩ | ⟨a1, a2⟩
        · have := hf y (List.mem_of_getElem? a3) g hg; omega
        · exact h.fr g (.inr ⟨y, List.mem_of_getElem? a2, hg⟩)
  · have e1 : splice ys (i * ks.length) x = ys.take (i * ks.length) ++ x ++ ys.drop (i * ks.length + x.length) := splice_take_eq (by omega)
    rw [e1]
    unfold cvs
    rw [List.map_append, List.take_append_of_le_length (by simp; rw [Nat.add_mul]; omega), List.take_of_length_le (by simp; rw [Nat.add_mul]; omega), List.map_append, ← List.map_take]
    congr 1
    · refine List.map_congr_left fun y hy => ?_
      have hmem := List.mem_of_mem_take hy
      rw [cv_same fun g hg => get_rd (hcell y (.inr hmem) g hg)]
      obtain ⟨j, hj⟩ := List.mem_iff_getElem?.1 hmem
      obtain ⟨kd, hkd⟩ := hot.frow.cell hj
      exact cv_mono hkd
    · exact List.map_congr_left fun y hy => cv_same fun g hg => get_rd (hcell y (.inl hy) g hg)

inductive Comp where
  | cells (ks : List CK) (xs : List Value)
  | row (v : Value) (ks : List CK) (n : Nat) (xs : List Value)
def Comp.xs : Comp → List Value
  | .cells _ xs => xs
  | .row _ _ _ xs => xs
def Comp.bs : Comp → Nat → Prop
  | .cells _ xs, b => ∃ y ∈ xs, blkOf y = some b
  | .row v _ _ xs, b => blkOf v = some b ∨ ∃ y ∈ xs, blkOf y = some b
def Comp.rd (H : AH) : Comp → Prop
  | .cells ks xs => All2 H ks xs
  | .row v ks n xs => FRow H v ks n xs
def Comp.own (H : AH) : Comp → Prop
  | .cells ks xs => All2 H ks xs ∧ (∀ y ∈ xs, OwnC H y) ∧ xs.Pairwise Dj
  | .row v ks n xs => OT H v ks n xs
theorem All2.rdable {H : AH} {ks : List CK} {xs : List Value} (h : All2 H ks xs) : ∀ b, (∃ y ∈ xs, blkOf y = some b) → (Go.Proofs.Ytockhdhilemfkaa.AM.rd H b).isSome = true := by
  rintro b ⟨y, hy, hb⟩
  obtain ⟨k, hk⟩ := h.mem hy
  exact hk.rdable b hb
theorem All2.same {H H' : AH} {ks : List CK} {xs : List Value} (h : All2 H ks xs) (hs : ∀ b, (∃ y ∈ xs, blkOf y = some b) → Go.Proofs.Ytockhdhilemfkaa.AM.rd H' b = Go.Proofs.Ytockhdhilemfkaa.AM.rd H b) : All2 H' ks xs :=
  All2.of h.len fun c k y hk hy => (h.get c k y hk hy).same fun b hb => hs b ⟨y, List.mem_of_getElem? hy, hb⟩
theorem Comp.own.rd {H : AH} {c : Comp} (h : c.own H) : c.rd H := by
  cases c with
  | cells ks xs => exact h.1
  | row v ks n xs => exact OT.frow h
theorem Comp.rd.able {H : AH} {c : Comp} (h : c.rd H) : ∀ b, c.bs b → (Go.Proofs.Ytockhdhilemfkaa.AM.rd H b).isSome = true := by
  cases c with
  | cells ks xs => exact All2.rdable h
  | row v ks n xs => exact FRow.rdable h
theorem rd_lt {H : AH} {b : Nat} (h : (Go.Proofs.Ytockhdhilemfkaa.AM.rd H b).isSome = true) : b < H.length := by
  rcases Nat.lt_or_ge b H.length with h1 | h1
  · exact h1
  · unfold Go.Proofs.Ytockhdhilemfkaa.AM.rd at h; rw [List.getElem?_eq_none h1] at h; cases h
theorem Comp.rd.same {H H' : AH} {c : Comp} (h : c.rd H) (hs : ∀ b, c.bs b → H'[b]? = H[b]?) : c.rd H' ∧ cvs H' c.xs = cvs H c.xs := by
  cases c with
  | cells ks xs => exact ⟨All2.same h fun b hb => get_rd (hs b hb), FRow.cvs_same fun b hb => get_rd (hs b hb)⟩
  | row v ks n xs => exact ⟨FRow.same h fun b hb => get_rd (hs b hb), FRow.cvs_same fun b hb => get_rd (hs b (.inr hb))⟩
theorem Comp.own.same {H H' : AH} {c : Comp} (h : c.own H) (hs : ∀ b, c.bs b → H'[b]? = H[b]?) : c.own H' := by
  cases c with
  | cells ks xs => exact ⟨(Comp.rd.same (c := .cells ks xs) h.1 hs).1, fun y hy => (h.2.1 y hy).same fun b hb => hs b ⟨y, hy, hb⟩, h.2.2⟩
  | row v ks n xs => exact OT.same h hs
def bsL (l : List Comp) (b : Nat) : Prop := ∃ c ∈ l, c.bs b
def Rd (H : AH) (l : List Comp) : Prop := ∀ c ∈ l, c.rd H
def cdj (c d : Comp) : Prop := ∀ b, c.bs b → ¬ d.bs b
def Own (H : AH) (l : List Comp) : Prop := (∀ c ∈ l, c.own H) ∧ l.Pairwise cdj
def mvs (H : AH) (l : List Comp) : List (List CV) := l.map fun c => cvs H c.xs
theorem Own.rd {H : AH} {l : List Comp} (h : Own H l) : Rd H l := fun c hc => (h.1 c hc).rd
theorem Rd.same {H H' : AH} {l : List Comp} (h : Rd H l) (hs : ∀ b, bsL l b → H'[b]? = H[b]?) : Rd H' l ∧ mvs H' l = mvs H l :=
  ⟨fun c hc => (Comp.rd.same (h c hc) fun b hb => hs b ⟨c, hc, hb⟩).1, List.map_congr_left fun c hc => (Comp.rd.same (h c hc) fun b hb => hs b ⟨c, hc, hb⟩).2⟩
theorem Own.same {H H' : AH} {l : List Comp} (h : Own H l) (hs : ∀ b, bsL l b → H'[b]? = H[b]?) : Own H' l := ⟨fun c hc => (h.1 c hc).same fun b hb => hs b ⟨c, hc, hb⟩, h.2⟩
theorem Rd.lt {H : AH} {l : List Comp} (h : Rd H l) : ∀ b, bsL l b → b < H.length := by
  rintro b ⟨c, hc, hb⟩
  exact rd_lt (Comp.rd.able (h c hc) b hb)
inductive LI where
  | blk (b : Nat) (k : Blk)
  | rd (l : List Comp) (V : List (List CV))
  | own (l : List Comp) (V : List (List CV))
def LI.ok (H : AH) : LI → Prop
  | .blk b k => H[b]? = some k
  | .rd l V => Rd H l ∧ mvs H l = V
  | .own l V => Own H l ∧ mvs H l = V
def LI.bs : LI → Nat → Prop
  | .blk b _, g => g = b
  | .rd l _, g => bsL l g
  | .own l _, g => bsL l g
theorem LI.ok.same {H H' : AH} {x : LI} (h : x.ok H) (hs : ∀ b, x.bs b → H'[b]? = H[b]?) : x.ok H' := by
  cases x with
  | blk b k => show H'[b]? = some k; rw [hs b rfl]; exact h
  | rd l V => obtain ⟨h1, h2⟩ := Rd.same h.1 hs; exact ⟨h1, by rw [h2]; exact h.2⟩
  | own l V => exact ⟨h.1.same hs, by rw [(Rd.same h.1.rd hs).2]; exact h.2⟩
theorem LI.ok.lt {H : AH} {x : LI} (h : x.ok H) : ∀ b, x.bs b → b < H.length := by
  cases x with
  | blk b k => intro g hg; cases hg; exact (List.getElem?_eq_some_iff.1 h).1
  | rd l V => exact Rd.lt h.1
  | own l V => exact Rd.lt h.1.rd
theorem LI.ok.ext {H H' : AH} {x : LI} (h : x.ok H) (he : ∃ K, H' = H ++ K) : x.ok H' := by
  obtain ⟨K, rfl⟩ := he
  exact h.same fun b hb => List.getElem?_append_left (h.lt b hb)
theorem LI.ok.box {H : AH} {cs : List Value} : LI.ok (H ++ [⟨cs, .own⟩]) (.blk H.length ⟨cs, .own⟩) := by
  show (H ++ [⟨cs, .own⟩])[H.length]? = _
  rw [gt0]; rfl
/-- What is alive stands beside the blocks from 'lo' to 'hi'. -/
def LI.off (lo hi : Nat) (x : LI) : Prop := ∀ b, x.bs b → ¬ (lo ≤ b ∧ b < hi)
theorem LI.ok.frame {H H' : AH} {x : LI} {lo hi : Nat} (h : x.ok H) (hf : ∀ b, b < H.length → ¬ (lo ≤ b ∧ b < hi) → H'[b]? = H[b]?) (ho : x.off lo hi) : x.ok H' := h.same fun b hb => hf b (h.lt b hb) (ho b hb)
/-- The blocks of what is alive. -/
def LI.rg (lo hi : Nat) (x : LI) : Prop := ∀ b, x.bs b → lo ≤ b ∧ b < hi
theorem LI.rg.off {x : LI} {lo hi lo' hi' : Nat} (h : x.rg lo hi) (hd : hi ≤ lo' ∨ hi' ≤ lo) : x.off lo' hi' := fun b hb => by have := h b hb; omega
/-- New things. -/
structure NewL (H0 H : AH) (l : List Comp) (V : List (List CV)) : Prop where
  own : Own H l
  fr : ∀ b, bsL l b → H0.length ≤ b
  vals : mvs H l = V
theorem NewL.ok {H0 H : AH} {l : List Comp} {V : List (List CV)} (h : NewL H0 H l V) : LI.ok H (.own l V) ∧ LI.rg H0.length H.length (.own l V) :=
  ⟨⟨h.own, h.vals⟩, fun b hb => ⟨h.fr b hb, h.own.rd.lt b hb⟩⟩
/-- What marking does. -/
structure Marked (H : AH) (l : List Comp) (k : Int) (H' : AH) (l' : List Comp) : Prop where
  own : Own H' l'
  bs : ∀ b, bsL l' b ↔ bsL l b
  len : H.length ≤ H'.length
  frame : ∀ b, b < H.length → ¬ bsL l b → H'[b]? = H[b]?
  vals : (mvs H' l').flatten = markF (mvs H l).flatten k
theorem Marked.ok {H H' : AH} {l l' : List Comp} {V : List (List CV)} {k : Int} {lo hi : Nat} (h : Marked H l k H' l') (hr : LI.rg lo hi (.own l V)) : LI.ok H' (.own l' (mvs H' l')) ∧ (∀ b, b < H.length → ¬ (lo ≤ b ∧ b < hi) → H'[b]? = H[b]?) :=
  ⟨⟨h.own, rfl⟩, fun b hl hb => h.frame b hl fun hb2 => hb (hr b hb2)⟩
theorem LI.ok.rd {H : AH} {l : List Comp} {V : List (List CV)} (h : LI.ok H (.own l V)) : LI.ok H (.rd l V) := ⟨h.1.rd, h.2⟩
theorem LI.row {H : AH} {v : Value} {ks : List CK} {n : Nat} {xs : List Value} {V : List CV} (h : LI.ok H (.rd [.row v ks n xs] [V])) : FRow H v ks n xs ∧ cvs H xs = V := by
  refine ⟨h.1 _ (List.mem_singleton.2 rfl), ?_⟩
  have := h.2
  simpa [mvs, Comp.xs] using this
def flo (a b : Int) : Int := if (a.tmod b != 0 && (decide (a < 0) != decide (b < 0))) = true then a.tdiv b - 1 else a.tdiv b
def raw2 (s a b : Int) : Int :=
  if s = 43 then a + b else if s = 45 then a - b else if s = 42 then a * b else if s = 37 then flo a b
  else if s = 124 then (if a = 0 then b else b - a * flo b a) else if s = 38 then (if a < b then a else b) else if s = 94 then (if a > b then a else b)
  else if s = 61 then (if a = b then 1 else 0) else if s = 60 then (if a < b then 1 else 0) else (if a > b then 1 else 0)
def twoF (s a b : Int) : Int × Int :=
  if (sg2 s && (numOk a && numOk b)) = true then (if s = 37 ∧ b = 0 then (0, 2) else if numOk (raw2 s a b) = true then (raw2 s a b, 0) else (0, 6)) else (0, 1)
theorem numOk_iff {x : Int} : numOk x = true ↔ -1000000000000 ≤ x ∧ x ≤ 1000000000000 := by unfold numOk; exact inB_true
theorem tdiv_le {a b : Int} : (a.tdiv b).natAbs ≤ a.natAbs := by
  rw [Int.natAbs_tdiv]; exact Nat.div_le_self _ _
theorem tmod_le {a b : Int} : (a.tmod b).natAbs ≤ a.natAbs := by
  rw [Int.natAbs_tmod]; exact Nat.mod_le _ _
theorem mul_flo {a b : Int} : -(2 * (b.natAbs : Int)) - a.natAbs ≤ a * flo b a ∧ a * flo b a ≤ 2 * b.natAbs + a.natAbs := by
  have h1 := Int.mul_tdiv_add_tmod b a
  have h2 := tmod_le (a := b) (b := a)
  unfold flo
  split
  · rw [Int.mul_sub]; omega
  · omega
theorem abs_max {b : Int} : (if 0 - b > b then 0 - b else b) = (b.natAbs : Int) := by
  split <;> omega
theorem prod_lim {a b : Int} (ha : a ≠ 0) : ((b.natAbs : Int) > (1000000000000 : Int).tdiv a.natAbs) ↔ ¬ numOk (a * b) = true := by
  have h1 : (1000000000000 : Int).tdiv a.natAbs = ((1000000000000 / a.natAbs : Nat) : Int) := rfl
  rw [h1, numOk_iff]
  have hp : 0 < a.natAbs := by omega
  have h2 := Nat.div_lt_iff_lt_mul hp (x := 1000000000000) (y := b.natAbs)
  have h3 : (a * b).natAbs = b.natAbs * a.natAbs := by rw [Int.natAbs_mul, Nat.mul_comm]
  have h4 : (b.natAbs : Int) > ((1000000000000 / a.natAbs : Nat) : Int) ↔ 1000000000000 / a.natAbs < b.natAbs := by omega
  rw [h4, h2, ← h3]
  omega

theorem product_ok {a b : Int} (ha : numOk a = true) (hb : numOk b = true) (H : AH) : CallsA Try.prog 125 #[.int .i64 a, .int .i64 b] H fun r H' => r = (if numOk (a * b) = true then .tuple #[.int .i64 (a * b), .bool true] else .tuple #[.int .i64 0, .bool false]) ∧ H' = H := by
  rw [numOk_iff] at ha hb
  have w1 : IntKind.i64.wrap (0 - a) = 0 - a := IntWalk.i64_in _ (by omega)
  have w2 : IntKind.i64.wrap (0 - b) = 0 - b := IntWalk.i64_in _ (by omega)
  refine w125 ?_
  unfold k125
  by_cases h0 : a = 0
  · subst h0
    have hn : numOk (0 * b) = true := by rw [numOk_iff]; omega
    rw [hn]
    simp -implicitDefEqProofs only [kz, kk0, kk1, kk2, kk3, ↓two_true, ↓two_false, oS_some, oM_some, mkv, aggAt, Nat.reduceLeDiff, Nat.reduceSub, Nat.reduceMul, implies_true, Nat.reduceEqDiff, reduceIte, Nat.reduceAdd, Nat.reduceBEq, reduceCtorEq, bne_self_eq_false, Int.zero_mul]
    simp [IntWalk.i64_in 0 (by decide)]
  · have hd : ((a.natAbs : Int)) ≠ 0 := by omega
    have hne : (a != 0) = true := by simp [h0]
    have hle : ((1000000000000 : Int).tdiv a.natAbs).natAbs ≤ 1000000000000 := tdiv_le
    have w3 : IntKind.i64.wrap ((1000000000000 : Int).tdiv a.natAbs) = (1000000000000 : Int).tdiv a.natAbs := IntWalk.i64_in _ (by omega)
    simp -implicitDefEqProofs only [kz, kk0, kk1, kk2, kk3, ↓two_true, ↓two_false, oS_some, oM_some, mkv, aggAt, Nat.reduceLeDiff, Nat.reduceSub, Nat.reduceMul, implies_true, Nat.reduceEqDiff, reduceIte, Nat.reduceAdd, Nat.reduceBEq, reduceCtorEq, w1, w2, hne, abs_max, bin_quo hd, w3]
    have hl := prod_lim (a := a) (b := b) h0
    refine two_intro (fun h => ?_) (fun h => ?_)
    · have h1 : (b.natAbs : Int) > (1000000000000 : Int).tdiv a.natAbs := by simpa using h
      rw [if_neg (hl.1 h1)]
    · have h1 : ¬ (b.natAbs : Int) > (1000000000000 : Int).tdiv a.natAbs := by simpa using h
      have h2 : numOk (a * b) = true := by
        by_cases h3 : numOk (a * b) = true
        · exact h3
        · exact absurd (hl.2 h3) h1
      rw [if_pos h2]
      rw [numOk_iff] at h2
      rw [IntWalk.i64_in (a * b) (by omega)]

theorem floor_ok {a b : Int} (ha : numOk a = true) (hb : b ≠ 0) (H : AH) : CallsA Try.prog 126 #[.int .i64 a, .int .i64 b] H fun r H' => r = .int .i64 (flo a b) ∧ H' = H := by
  rw [numOk_iff] at ha
  have hle := tdiv_le (a := a) (b := b)
  have w1 : IntKind.i64.wrap (a.tdiv b) = a.tdiv b := IntWalk.i64_in _ (by omega)
  have w2 : IntKind.i64.wrap (a.tdiv b - 1) = a.tdiv b - 1 := IntWalk.i64_in _ (by omega)
  refine w126 ?_
  unfold k126 flo
  simp -implicitDefEqProofs only [kz, kk0, kk1, kk2, kk3, ↓two_true, ↓two_false, oS_some, oM_some, mkv, aggAt, Nat.reduceLeDiff, Nat.reduceSub, Nat.reduceMul, implies_true, Nat.reduceEqDiff, reduceIte, Nat.reduceAdd, Nat.reduceBEq, reduceCtorEq, (bin_bool_eql ub4), (bin_bool_neq ub4), bin_quo hb, bin_rem hb, w1, w2]
  refine two_intro (fun h => ?_) (fun h => ?_)
  · rw [h]
    refine two_intro (fun h2 => ?_) (fun h2 => ?_)
    · rw [h2]; rfl
    · rw [h2]; rfl
  · rw [h]; rfl

theorem l1Floor_ok {a b : Int} (ha : numOk a = true) (hb : b ≠ 0) (H : AH) : CallsA Try.prog 166 #[.int .i64 a, .int .i64 b] H fun r H' => r = .int .i64 (flo a b) ∧ H' = H := by
  rw [numOk_iff] at ha
  have hle := tdiv_le (a := a) (b := b)
  have w1 : IntKind.i64.wrap (a.tdiv b) = a.tdiv b := IntWalk.i64_in _ (by omega)
  have w2 : IntKind.i64.wrap (a.tdiv b - 1) = a.tdiv b - 1 := IntWalk.i64_in _ (by omega)
  refine w166 ?_
  unfold k166 flo
  simp -implicitDefEqProofs only [kz, kk0, kk1, kk2, kk3, ↓two_true, ↓two_false, oS_some, oM_some, mkv, aggAt, Nat.reduceLeDiff, Nat.reduceSub, Nat.reduceMul, implies_true, Nat.reduceEqDiff, reduceIte, Nat.reduceAdd, Nat.reduceBEq, reduceCtorEq, (bin_bool_eql ub4), (bin_bool_neq ub4), bin_quo hb, bin_rem hb, w1, w2]
  refine two_intro (fun h => ?_) (fun h => ?_)
  · rw [h]
    refine two_intro (fun h2 => ?_) (fun h2 => ?_)
    · rw [h2]; rfl
    · rw [h2]; rfl
  · rw [h]; rfl

theorem abs_max2 {b : Int} : (if b > 0 - b then b else 0 - b) = (b.natAbs : Int) := by
  split <;> omega
theorem l1Times_ok {a b : Int} (ha : numOk a = true) (hb : numOk b = true) (H : AH) : CallsA Try.prog 165 #[.int .i64 a, .int .i64 b] H fun r H' => r = (if numOk (a * b) = true then .tuple #[.int .i64 (a * b), .bool true] else .tuple #[.int .i64 0, .bool false]) ∧ H' = H := by
  rw [numOk_iff] at ha hb
  have w1 : IntKind.i64.wrap (0 - a) = 0 - a := IntWalk.i64_in _ (by omega)
  have w2 : IntKind.i64.wrap (0 - b) = 0 - b := IntWalk.i64_in _ (by omega)
  refine w165 ?_
  unfold k165
  by_cases ha0 : a = 0
  · subst ha0
    have hn : numOk (0 * b) = true := by rw [numOk_iff]; omega
    rw [hn, Int.zero_mul]
    simp -implicitDefEqProofs only [kz, kk0, kk1, kk2, kk3, ↓two_true, ↓two_false, oS_some, oM_some, mkv, aggAt, Nat.reduceLeDiff, Nat.reduceSub, Nat.reduceMul, implies_true, Nat.reduceEqDiff, reduceIte, Nat.reduceAdd, Nat.reduceBEq, reduceCtorEq, beq_self_eq_true]
  · by_cases hb0 : b = 0
    · subst hb0
      have hn : numOk (a * 0) = true := by rw [numOk_iff]; omega
      have e1 : (a == 0) = false := by simp [ha0]
      rw [hn, Int.mul_zero]
      simp -implicitDefEqProofs only [kz, kk0, kk1, kk2, kk3, ↓two_true, ↓two_false, oS_some, oM_some, mkv, aggAt, Nat.reduceLeDiff, Nat.reduceSub, Nat.reduceMul, implies_true, Nat.reduceEqDiff, reduceIte, Nat.reduceAdd, Nat.reduceBEq, reduceCtorEq, e1, beq_self_eq_true]
    · have e1 : (a == 0) = false := by simp [ha0]
      have e2 : (b == 0) = false := by simp [hb0]
      have hd : ((b.natAbs : Int)) ≠ 0 := by omega
      have hle : ((1000000000000 : Int).tdiv b.natAbs).natAbs ≤ 1000000000000 := tdiv_le
      have w3 : IntKind.i64.wrap ((1000000000000 : Int).tdiv b.natAbs) = (1000000000000 : Int).tdiv b.natAbs := IntWalk.i64_in _ (by omega)
      simp -implicitDefEqProofs only [kz, kk0, kk1, kk2, kk3, ↓two_true, ↓two_false, oS_some, oM_some, mkv, aggAt, Nat.reduceLeDiff, Nat.reduceSub, Nat.reduceMul, implies_true, Nat.reduceEqDiff, reduceIte, Nat.reduceAdd, Nat.reduceBEq, reduceCtorEq, w1, w2, e1, e2, l1Max_eq, abs_max2, bin_quo hd, w3]
      have hl := prod_lim (a := b) (b := a) hb0
      rw [Int.mul_comm] at hl
      refine two_intro (fun h => ?_) (fun h => ?_)
      · have h1 : (a.natAbs : Int) > (1000000000000 : Int).tdiv b.natAbs := by simpa using h
        rw [if_neg (hl.1 h1)]
      · have h1 : ¬ (a.natAbs : Int) > (1000000000000 : Int).tdiv b.natAbs := by simpa using h
        have h2 : numOk (a * b) = true := by
          by_cases h3 : numOk (a * b) = true
          · exact h3
          · exact absurd (hl.2 h3) h1
        rw [if_pos h2]
        rw [numOk_iff] at h2
        rw [IntWalk.i64_in (a * b) (by omega)]

theorem sg2_cases {s : Int} (h : sg2 s = true) : s = 43 ∨ s = 45 ∨ s = 42 ∨ s = 37 ∨ s = 124 ∨ s = 38 ∨ s = 94 ∨ s = 61 ∨ s = 60 ∨ s = 62 := by
  simp only [sg2, Bool.or_eq_true, beq_iff_eq] at h
  omega
theorem implTwo_ok (s a b : Int) (H : AH) : CallsA Try.prog 55 #[.int .i64 s, .int .i64 a, .int .i64 b] H fun r H' => r = .tuple #[.int .i64 (twoF s a b).1, .int .i64 (twoF s a b).2] ∧ H' = H := by
  by_cases hok : (sg2 s && (numOk a && numOk b)) = true
  · have hok2 := hok
    simp only [Bool.and_eq_true] at hok2
    obtain ⟨h1, h2, h3⟩ := hok2
    have b1 := numOk_iff.1 h2
    have b2 := numOk_iff.1 h3
    have wz : ∀ x : Int, -9223372036854775808 ≤ x ∧ x ≤ 9223372036854775807 → IntKind.i64.wrap x = x := fun x hx => IntWalk.i64_in _ (by omega)
    have ep := fun Φ => (Ans.eq (Φ := Φ) (product_ok h2 h3 H))
    have w1 := wz (a + b) (by omega)
    have w2 := wz (a - b) (by omega)
    have fin : ∀ {v : Int}, raw2 s a b = v → ¬ (s = 37 ∧ b = 0) → two (!numOk v) ((Value.tuple #[.int .i64 0, .int .i64 6] = .tuple #[.int .i64 (twoF s a b).1, .int .i64 (twoF s a b).2]) ∧ H = H) ((Value.tuple #[.int .i64 v, .int .i64 0] = .tuple #[.int .i64 (twoF s a b).1, .int .i64 (twoF s a b).2]) ∧ H = H) := by
      intro v hv hn
      unfold twoF
      rw [if_pos hok, if_neg hn, hv]
      refine two_intro (fun h => ?_) (fun h => ?_)
      · rw [if_neg (by simpa using h)]; exact ⟨rfl, rfl⟩
      · rw [if_pos (by simpa using h)]; exact ⟨rfl, rfl⟩
    refine w55 ?_
    unfold k55
    rcases sg2_cases h1 with rfl | rfl | rfl | rfl | rfl | rfl | rfl | rfl | rfl | rfl
    · simp -implicitDefEqProofs only [kz, kk0, kk1, kk2, kk3, ↓two_true, ↓two_false, oS_some, oM_some, mkv, aggAt, Nat.reduceLeDiff, Nat.reduceSub, Nat.reduceMul, implies_true, Nat.reduceEqDiff, reduceIte, Nat.reduceAdd, Nat.reduceBEq, reduceCtorEq, twoSign_eq, implNumOk_eq, h1, h2, h3, Bool.not_true, Int.reduceBEq, w1]
      simpa using fin (v := a + b) rfl (by omega)
    · simp -implicitDefEqProofs only [kz, kk0, kk1, kk2, kk3, ↓two_true, ↓two_false, oS_some, oM_some, mkv, aggAt, Nat.reduceLeDiff, Nat.reduceSub, Nat.reduceMul, implies_true, Nat.reduceEqDiff, reduceIte, Nat.reduceAdd, Nat.reduceBEq, reduceCtorEq, twoSign_eq, implNumOk_eq, h1, h2, h3, Bool.not_true, Int.reduceBEq, w2]
      simpa using fin (v := a - b) rfl (by omega)
    · simp -implicitDefEqProofs only [kz, kk0, kk1, kk2, kk3, ↓two_true, ↓two_false, oS_some, oM_some, mkv, aggAt, Nat.reduceLeDiff, Nat.reduceSub, Nat.reduceMul, implies_true, Nat.reduceEqDiff, reduceIte, Nat.reduceAdd, Nat.reduceBEq, reduceCtorEq, twoSign_eq, implNumOk_eq, h1, h2, h3, Bool.not_true, Int.reduceBEq]
      refine (product_ok h2 h3 H).mono ?_
      rintro _ H' ⟨rfl, rfl⟩
      have hf := fin (v := a * b) rfl (by omega)
      by_cases h4 : numOk (a * b) = true
      · rw [if_pos h4]
        simp -implicitDefEqProofs only [kz, kk0, kk1, kk2, kk3, ↓two_true, ↓two_false, oS_some, oM_some, mkv, aggAt, Nat.reduceLeDiff, Nat.reduceSub, Nat.reduceMul, implies_true, Nat.reduceEqDiff, reduceIte, Nat.reduceAdd, Nat.reduceBEq, reduceCtorEq, implNumOk_eq, h4, Bool.not_true]
        rw [h4] at hf
        simpa [two] using hf
      · rw [if_neg h4]
        simp -implicitDefEqProofs only [kz, kk0, kk1, kk2, kk3, ↓two_true, ↓two_false, oS_some, oM_some, mkv, aggAt, Nat.reduceLeDiff, Nat.reduceSub, Nat.reduceMul, implies_true, Nat.reduceEqDiff, reduceIte, Nat.reduceAdd, Nat.reduceBEq, reduceCtorEq, implNumOk_eq, Bool.not_false]
        rw [show numOk (a * b) = false by simpa using h4] at hf
        simpa [two] using hf
    · by_cases hb : b = 0
      · subst hb
        simp -implicitDefEqProofs only [kz, kk0, kk1, kk2, kk3, ↓two_true, ↓two_false, oS_some, oM_some, mkv, aggAt, Nat.reduceLeDiff, Nat.reduceSub, Nat.reduceMul, implies_true, Nat.reduceEqDiff, reduceIte, Nat.reduceAdd, Nat.reduceBEq, reduceCtorEq, twoSign_eq, implNumOk_eq, h1, h2, h3, Bool.not_true, Int.reduceBEq]
        unfold twoF
        rw [if_pos hok, if_pos ⟨rfl, rfl⟩]
      · have e0 : (b == 0) = false := by simp [hb]
        simp -implicitDefEqProofs only [kz, kk0, kk1, kk2, kk3, ↓two_true, ↓two_false, oS_some, oM_some, mkv, aggAt, Nat.reduceLeDiff, Nat.reduceSub, Nat.reduceMul, implies_true, Nat.reduceEqDiff, reduceIte, Nat.reduceAdd, Nat.reduceBEq, reduceCtorEq, twoSign_eq, implNumOk_eq, h1, h2, h3, Bool.not_true, Int.reduceBEq, e0]
        refine (floor_ok h2 hb H).mono ?_
        rintro _ H' ⟨rfl, rfl⟩
        simp -implicitDefEqProofs only [kz, kk0, kk1, kk2, kk3, ↓two_true, ↓two_false, oS_some, oM_some, mkv, aggAt, Nat.reduceLeDiff, Nat.reduceSub, Nat.reduceMul, implies_true, Nat.reduceEqDiff, reduceIte, Nat.reduceAdd, Nat.reduceBEq, reduceCtorEq, implNumOk_eq, Bool.not_true]
        simpa using fin (v := flo a b) rfl (by omega)
    · by_cases ha : a = 0
      · subst ha
        have e0 : ((0 : Int) != 0) = false := rfl
        simp -implicitDefEqProofs only [kz, kk0, kk1, kk2, kk3, ↓two_true, ↓two_false, oS_some, oM_some, mkv, aggAt, Nat.reduceLeDiff, Nat.reduceSub, Nat.reduceMul, implies_true, Nat.reduceEqDiff, reduceIte, Nat.reduceAdd, Nat.reduceBEq, reduceCtorEq, twoSign_eq, implNumOk_eq, h1, h2, h3, Bool.not_true, Int.reduceBEq, e0]
        have hf := fin (v := b) rfl (by omega)
        rw [h3] at hf
        simpa [two] using hf
      · have e0 : (a != 0) = true := by simp [ha]
        simp -implicitDefEqProofs only [kz, kk0, kk1, kk2, kk3, ↓two_true, ↓two_false, oS_some, oM_some, mkv, aggAt, Nat.reduceLeDiff, Nat.reduceSub, Nat.reduceMul, implies_true, Nat.reduceEqDiff, reduceIte, Nat.reduceAdd, Nat.reduceBEq, reduceCtorEq, twoSign_eq, implNumOk_eq, h1, h2, h3, Bool.not_true, Int.reduceBEq, e0]
        refine (floor_ok h3 ha H).mono ?_
        rintro _ H' ⟨rfl, rfl⟩
        have hm := mul_flo (a := a) (b := b)
        simp -implicitDefEqProofs only [kz, kk0, kk1, kk2, kk3, ↓two_true, ↓two_false, oS_some, oM_some, mkv, aggAt, Nat.reduceLeDiff, Nat.reduceSub, Nat.reduceMul, implies_true, Nat.reduceEqDiff, reduceIte, Nat.reduceAdd, Nat.reduceBEq, reduceCtorEq, implNumOk_eq, Bool.not_true, wz (a * flo b a) (by omega), wz (b - a * flo b a) (by omega)]
        simpa using fin (v := b - a * flo b a) (by simp [raw2, ha]) (by omega)
    · simp -implicitDefEqProofs only [kz, kk0, kk1, kk2, kk3, ↓two_true, ↓two_false, oS_some, oM_some, mkv, aggAt, Nat.reduceLeDiff, Nat.reduceSub, Nat.reduceMul, implies_true, Nat.reduceEqDiff, reduceIte, Nat.reduceAdd, Nat.reduceBEq, reduceCtorEq, twoSign_eq, implNumOk_eq, h1, h2, h3, Bool.not_true, Int.reduceBEq]
      have e : raw2 38 a b = if b < a then b else a := by
        simp only [raw2, Int.reduceEq, if_false, if_true]
        split <;> split <;> omega
      simpa using fin e (by omega)
    · simp -implicitDefEqProofs only [kz, kk0, kk1, kk2, kk3, ↓two_true, ↓two_false, oS_some, oM_some, mkv, aggAt, Nat.reduceLeDiff, Nat.reduceSub, Nat.reduceMul, implies_true, Nat.reduceEqDiff, reduceIte, Nat.reduceAdd, Nat.reduceBEq, reduceCtorEq, twoSign_eq, implNumOk_eq, h1, h2, h3, Bool.not_true, Int.reduceBEq]
      have e : raw2 94 a b = if b > a then b else a := by
        simp only [raw2, Int.reduceEq, if_false, if_true]
        split <;> split <;> omega
      simpa using fin e (by omega)
    · simp -implicitDefEqProofs only [kz, kk0, kk1, kk2, kk3, ↓two_true, ↓two_false, oS_some, oM_some, mkv, aggAt, Nat.reduceLeDiff, Nat.reduceSub, Nat.reduceMul, implies_true, Nat.reduceEqDiff, reduceIte, Nat.reduceAdd, Nat.reduceBEq, reduceCtorEq, twoSign_eq, truth_eq, implNumOk_eq, h1, h2, h3, Bool.not_true, Int.reduceBEq]
      have e : raw2 61 a b = if (a == b) = true then 1 else 0 := by simp [raw2]
      simpa using fin e (by omega)
    · simp -implicitDefEqProofs only [kz, kk0, kk1, kk2, kk3, ↓two_true, ↓two_false, oS_some, oM_some, mkv, aggAt, Nat.reduceLeDiff, Nat.reduceSub, Nat.reduceMul, implies_true, Nat.reduceEqDiff, reduceIte, Nat.reduceAdd, Nat.reduceBEq, reduceCtorEq, twoSign_eq, truth_eq, implNumOk_eq, h1, h2, h3, Bool.not_true, Int.reduceBEq]
      have e : raw2 60 a b = if decide (a < b) = true then 1 else 0 := by simp [raw2]
      simpa using fin e (by omega)
    · simp -implicitDefEqProofs only [kz, kk0, kk1, kk2, kk3, ↓two_true, ↓two_false, oS_some, oM_some, mkv, aggAt, Nat.reduceLeDiff, Nat.reduceSub, Nat.reduceMul, implies_true, Nat.reduceEqDiff, reduceIte, Nat.reduceAdd, Nat.reduceBEq, reduceCtorEq, twoSign_eq, truth_eq, implNumOk_eq, h1, h2, h3, Bool.not_true, Int.reduceBEq]
      have e : raw2 62 a b = if decide (a > b) = true then 1 else 0 := by simp [raw2]
      simpa using fin e (by omega)
  · have e : twoF s a b = (0, 1) := by unfold twoF; rw [if_neg hok]
    rw [e]
    refine w55 ?_
    unfold k55
    cases h1 : sg2 s with
    | false => simp -implicitDefEqProofs only [kz, kk0, kk1, kk2, kk3, ↓two_true, ↓two_false, oS_some, oM_some, mkv, aggAt, Nat.reduceLeDiff, Nat.reduceSub, Nat.reduceMul, implies_true, Nat.reduceEqDiff, reduceIte, Nat.reduceAdd, Nat.reduceBEq, reduceCtorEq, twoSign_eq, implNumOk_eq, h1, Bool.not_false]
    | true =>
      cases h2 : numOk a with
      | false => simp -implicitDefEqProofs only [kz, kk0, kk1, kk2, kk3, ↓two_true, ↓two_false, oS_some, oM_some, mkv, aggAt, Nat.reduceLeDiff, Nat.reduceSub, Nat.reduceMul, implies_true, Nat.reduceEqDiff, reduceIte, Nat.reduceAdd, Nat.reduceBEq, reduceCtorEq, twoSign_eq, implNumOk_eq, h1, h2, Bool.not_false, Bool.not_true]
      | true =>
        have h3 : numOk b = false := by simpa [h1, h2] using hok
        simp -implicitDefEqProofs only [kz, kk0, kk1, kk2, kk3, ↓two_true, ↓two_false, oS_some, oM_some, mkv, aggAt, Nat.reduceLeDiff, Nat.reduceSub, Nat.reduceMul, implies_true, Nat.reduceEqDiff, reduceIte, Nat.reduceAdd, Nat.reduceBEq, reduceCtorEq, twoSign_eq, implNumOk_eq, h1, h2, h3, Bool.not_false, Bool.not_true]

theorem specTwo_ok (s a b : Int) (H : AH) : CallsA Try.prog 124 #[.int .i64 s, .int .i64 a, .int .i64 b] H fun r H' => r = .tuple #[.int .i64 (twoF s a b).1, .int .i64 (twoF s a b).2] ∧ H' = H := by
  by_cases hok : (sg2 s && (numOk a && numOk b)) = true
  · have hok2 := hok
    simp only [Bool.and_eq_true] at hok2
    obtain ⟨h1, h2, h3⟩ := hok2
    have b1 := numOk_iff.1 h2
    have b2 := numOk_iff.1 h3
    have wz : ∀ x : Int, -9223372036854775808 ≤ x ∧ x ≤ 9223372036854775807 → IntKind.i64.wrap x = x := fun x hx => IntWalk.i64_in _ (by omega)
    have ep := fun Φ => (Ans.eq (Φ := Φ) (l1Times_ok h2 h3 H))
    have w1 := wz (a + b) (by omega)
    have w2 := wz (a - b) (by omega)
    have fin : ∀ {v : Int}, raw2 s a b = v → ¬ (s = 37 ∧ b = 0) → two (!numOk v) ((Value.tuple #[.int .i64 0, .int .i64 6] = .tuple #[.int .i64 (twoF s a b).1, .int .i64 (twoF s a b).2]) ∧ H = H) ((Value.tuple #[.int .i64 v, .int .i64 0] = .tuple #[.int .i64 (twoF s a b).1, .int .i64 (twoF s a b).2]) ∧ H = H) := by
      intro v hv hn
      unfold twoF
      rw [if_pos hok, if_neg hn, hv]
      refine two_intro (fun h => ?_) (fun h => ?_)
      · rw [if_neg (by simpa using h)]; exact ⟨rfl, rfl⟩
      · rw [if_pos (by simpa using h)]; exact ⟨rfl, rfl⟩
    refine w124 ?_
    unfold k124
    rcases sg2_cases h1 with rfl | rfl | rfl | rfl | rfl | rfl | rfl | rfl | rfl | rfl
    · simp -implicitDefEqProofs only [kz, kk0, kk1, kk2, kk3, ↓two_true, ↓two_false, oS_some, oM_some, mkv, aggAt, Nat.reduceLeDiff, Nat.reduceSub, Nat.reduceMul, implies_true, Nat.reduceEqDiff, reduceIte, Nat.reduceAdd, Nat.reduceBEq, reduceCtorEq, l1Sign2_eq, specNumOk_eq, h1, h2, h3, Bool.not_true, Int.reduceBEq, w1]
      simpa using fin (v := a + b) rfl (by omega)
    · simp -implicitDefEqProofs only [kz, kk0, kk1, kk2, kk3, ↓two_true, ↓two_false, oS_some, oM_some, mkv, aggAt, Nat.reduceLeDiff, Nat.reduceSub, Nat.reduceMul, implies_true, Nat.reduceEqDiff, reduceIte, Nat.reduceAdd, Nat.reduceBEq, reduceCtorEq, l1Sign2_eq, specNumOk_eq, h1, h2, h3, Bool.not_true, Int.reduceBEq, w2]
      simpa using fin (v := a - b) rfl (by omega)
    · simp -implicitDefEqProofs only [kz, kk0, kk1, kk2, kk3, ↓two_true, ↓two_false, oS_some, oM_some, mkv, aggAt, Nat.reduceLeDiff, Nat.reduceSub, Nat.reduceMul, implies_true, Nat.reduceEqDiff, reduceIte, Nat.reduceAdd, Nat.reduceBEq, reduceCtorEq, l1Sign2_eq, specNumOk_eq, h1, h2, h3, Bool.not_true, Int.reduceBEq, l1Min_eq, l1Max_eq]
      refine (l1Times_ok h2 h3 H).mono ?_
      rintro _ H' ⟨rfl, rfl⟩
      have hf := fin (v := a * b) rfl (by omega)
      by_cases h4 : numOk (a * b) = true
      · rw [if_pos h4]
        simp -implicitDefEqProofs only [kz, kk0, kk1, kk2, kk3, ↓two_true, ↓two_false, oS_some, oM_some, mkv, aggAt, Nat.reduceLeDiff, Nat.reduceSub, Nat.reduceMul, implies_true, Nat.reduceEqDiff, reduceIte, Nat.reduceAdd, Nat.reduceBEq, reduceCtorEq, specNumOk_eq, h4, Bool.not_true]
        rw [h4] at hf
        simpa [two] using hf
      · rw [if_neg h4]
        simp -implicitDefEqProofs only [kz, kk0, kk1, kk2, kk3, ↓two_true, ↓two_false, oS_some, oM_some, mkv, aggAt, Nat.reduceLeDiff, Nat.reduceSub, Nat.reduceMul, implies_true, Nat.reduceEqDiff, reduceIte, Nat.reduceAdd, Nat.reduceBEq, reduceCtorEq, specNumOk_eq, Bool.not_false]
        rw [show numOk (a * b) = false by simpa using h4] at hf
        simpa [two] using hf
    · by_cases hb : b = 0
      · subst hb
        simp -implicitDefEqProofs only [kz, kk0, kk1, kk2, kk3, ↓two_true, ↓two_false, oS_some, oM_some, mkv, aggAt, Nat.reduceLeDiff, Nat.reduceSub, Nat.reduceMul, implies_true, Nat.reduceEqDiff, reduceIte, Nat.reduceAdd, Nat.reduceBEq, reduceCtorEq, l1Sign2_eq, specNumOk_eq, h1, h2, h3, Bool.not_true, Int.reduceBEq, l1Min_eq, l1Max_eq]
        unfold twoF
        rw [if_pos hok, if_pos ⟨rfl, rfl⟩]
      · have e0 : (b == 0) = false := by simp [hb]
        simp -implicitDefEqProofs only [kz, kk0, kk1, kk2, kk3, ↓two_true, ↓two_false, oS_some, oM_some, mkv, aggAt, Nat.reduceLeDiff, Nat.reduceSub, Nat.reduceMul, implies_true, Nat.reduceEqDiff, reduceIte, Nat.reduceAdd, Nat.reduceBEq, reduceCtorEq, l1Sign2_eq, specNumOk_eq, h1, h2, h3, Bool.not_true, Int.reduceBEq, e0]
        refine (l1Floor_ok h2 hb H).mono ?_
        rintro _ H' ⟨rfl, rfl⟩
        simp -implicitDefEqProofs only [kz, kk0, kk1, kk2, kk3, ↓two_true, ↓two_false, oS_some, oM_some, mkv, aggAt, Nat.reduceLeDiff, Nat.reduceSub, Nat.reduceMul, implies_true, Nat.reduceEqDiff, reduceIte, Nat.reduceAdd, Nat.reduceBEq, reduceCtorEq, specNumOk_eq, Bool.not_true]
        simpa using fin (v := flo a b) rfl (by omega)
    · by_cases ha : a = 0
      · subst ha
        have e0 : ((0 : Int) != 0) = false := rfl
        simp -implicitDefEqProofs only [kz, kk0, kk1, kk2, kk3, ↓two_true, ↓two_false, oS_some, oM_some, mkv, aggAt, Nat.reduceLeDiff, Nat.reduceSub, Nat.reduceMul, implies_true, Nat.reduceEqDiff, reduceIte, Nat.reduceAdd, Nat.reduceBEq, reduceCtorEq, l1Sign2_eq, specNumOk_eq, h1, h2, h3, Bool.not_true, Int.reduceBEq, e0]
        have hf := fin (v := b) rfl (by omega)
        rw [h3] at hf
        simpa [two] using hf
      · have e0 : (a != 0) = true := by simp [ha]
        simp -implicitDefEqProofs only [kz, kk0, kk1, kk2, kk3, ↓two_true, ↓two_false, oS_some, oM_some, mkv, aggAt, Nat.reduceLeDiff, Nat.reduceSub, Nat.reduceMul, implies_true, Nat.reduceEqDiff, reduceIte, Nat.reduceAdd, Nat.reduceBEq, reduceCtorEq, l1Sign2_eq, specNumOk_eq, h1, h2, h3, Bool.not_true, Int.reduceBEq, e0]
        refine (l1Floor_ok h3 ha H).mono ?_
        rintro _ H' ⟨rfl, rfl⟩
        have hm := mul_flo (a := a) (b := b)
        simp -implicitDefEqProofs only [kz, kk0, kk1, kk2, kk3, ↓two_true, ↓two_false, oS_some, oM_some, mkv, aggAt, Nat.reduceLeDiff, Nat.reduceSub, Nat.reduceMul, implies_true, Nat.reduceEqDiff, reduceIte, Nat.reduceAdd, Nat.reduceBEq, reduceCtorEq, specNumOk_eq, Bool.not_true, wz (a * flo b a) (by omega), wz (b - a * flo b a) (by omega)]
        simpa using fin (v := b - a * flo b a) (by simp [raw2, ha]) (by omega)
    · simp -implicitDefEqProofs only [kz, kk0, kk1, kk2, kk3, ↓two_true, ↓two_false, oS_some, oM_some, mkv, aggAt, Nat.reduceLeDiff, Nat.reduceSub, Nat.reduceMul, implies_true, Nat.reduceEqDiff, reduceIte, Nat.reduceAdd, Nat.reduceBEq, reduceCtorEq, l1Sign2_eq, specNumOk_eq, h1, h2, h3, Bool.not_true, Int.reduceBEq, l1Min_eq, l1Max_eq]
      have e : raw2 38 a b = if a < b then a else b := by
        simp only [raw2, Int.reduceEq, if_false, if_true]
      simpa using fin e (by omega)
    · simp -implicitDefEqProofs only [kz, kk0, kk1, kk2, kk3, ↓two_true, ↓two_false, oS_some, oM_some, mkv, aggAt, Nat.reduceLeDiff, Nat.reduceSub, Nat.reduceMul, implies_true, Nat.reduceEqDiff, reduceIte, Nat.reduceAdd, Nat.reduceBEq, reduceCtorEq, l1Sign2_eq, specNumOk_eq, h1, h2, h3, Bool.not_true, Int.reduceBEq, l1Min_eq, l1Max_eq]
      have e : raw2 94 a b = if a > b then a else b := by
        simp only [raw2, Int.reduceEq, if_false, if_true]
      simpa using fin e (by omega)
    · simp -implicitDefEqProofs only [kz, kk0, kk1, kk2, kk3, ↓two_true, ↓two_false, oS_some, oM_some, mkv, aggAt, Nat.reduceLeDiff, Nat.reduceSub, Nat.reduceMul, implies_true, Nat.reduceEqDiff, reduceIte, Nat.reduceAdd, Nat.reduceBEq, reduceCtorEq, l1Sign2_eq, l1Bit_eq, specNumOk_eq, h1, h2, h3, Bool.not_true, Int.reduceBEq, l1Min_eq, l1Max_eq]
      have e : raw2 61 a b = if (a == b) = true then 1 else 0 := by simp [raw2]
      simpa using fin e (by omega)
    · simp -implicitDefEqProofs only [kz, kk0, kk1, kk2, kk3, ↓two_true, ↓two_false, oS_some, oM_some, mkv, aggAt, Nat.reduceLeDiff, Nat.reduceSub, Nat.reduceMul, implies_true, Nat.reduceEqDiff, reduceIte, Nat.reduceAdd, Nat.reduceBEq, reduceCtorEq, l1Sign2_eq, l1Bit_eq, specNumOk_eq, h1, h2, h3, Bool.not_true, Int.reduceBEq, l1Min_eq, l1Max_eq]
      have e : raw2 60 a b = if decide (a < b) = true then 1 else 0 := by simp [raw2]
      simpa using fin e (by omega)
    · simp -implicitDefEqProofs only [kz, kk0, kk1, kk2, kk3, ↓two_true, ↓two_false, oS_some, oM_some, mkv, aggAt, Nat.reduceLeDiff, Nat.reduceSub, Nat.reduceMul, implies_true, Nat.reduceEqDiff, reduceIte, Nat.reduceAdd, Nat.reduceBEq, reduceCtorEq, l1Sign2_eq, l1Bit_eq, specNumOk_eq, h1, h2, h3, Bool.not_true, Int.reduceBEq, l1Min_eq, l1Max_eq]
      have e : raw2 62 a b = if decide (a > b) = true then 1 else 0 := by simp [raw2]
      simpa using fin e (by omega)
  · have e : twoF s a b = (0, 1) := by unfold twoF; rw [if_neg hok]
    rw [e]
    refine w124 ?_
    unfold k124
    cases h1 : sg2 s with
    | false => simp -implicitDefEqProofs only [kz, kk0, kk1, kk2, kk3, ↓two_true, ↓two_false, oS_some, oM_some, mkv, aggAt, Nat.reduceLeDiff, Nat.reduceSub, Nat.reduceMul, implies_true, Nat.reduceEqDiff, reduceIte, Nat.reduceAdd, Nat.reduceBEq, reduceCtorEq, l1Sign2_eq, specNumOk_eq, h1, Bool.not_false]
    | true =>
      cases h2 : numOk a with
      | false => simp -implicitDefEqProofs only [kz, kk0, kk1, kk2, kk3, ↓two_true, ↓two_false, oS_some, oM_some, mkv, aggAt, Nat.reduceLeDiff, Nat.reduceSub, Nat.reduceMul, implies_true, Nat.reduceEqDiff, reduceIte, Nat.reduceAdd, Nat.reduceBEq, reduceCtorEq, l1Sign2_eq, specNumOk_eq, h1, h2, Bool.not_false, Bool.not_true]
      | true =>
        have h3 : numOk b = false := by simpa [h1, h2] using hok
        simp -implicitDefEqProofs only [kz, kk0, kk1, kk2, kk3, ↓two_true, ↓two_false, oS_some, oM_some, mkv, aggAt, Nat.reduceLeDiff, Nat.reduceSub, Nat.reduceMul, implies_true, Nat.reduceEqDiff, reduceIte, Nat.reduceAdd, Nat.reduceBEq, reduceCtorEq, l1Sign2_eq, specNumOk_eq, h1, h2, h3, Bool.not_false, Bool.not_true]

theorem specShapeOk_ok {H : AH} {v : Value} {l : List Int} (hv : IntRow H v l) (hl : l.length < 4611686018427387904) : CallsA Try.prog 112 #[v] H fun r H' => r = .bool (decide (sizeI l ≥ 0)) ∧ H' = H := by
  have e := fun Φ => (specSizeOf_ok hv hl).eq0 (Φ := Φ)
  refine w112 ?_
  unfold k112
  simp -implicitDefEqProofs only [kz, kk0, kk1, kk2, kk3, ↓two_true, ↓two_false, oS_some, oM_some, mkv, aggAt, Nat.reduceLeDiff, Nat.reduceSub, Nat.reduceMul, implies_true, Nat.reduceEqDiff, reduceIte, Nat.reduceAdd, Nat.reduceBEq, reduceCtorEq, e]

theorem implShapeOk_ok {H : AH} {v : Value} {l : List Int} (hv : IntRow H v l) (hl : l.length < 4611686018427387904) : CallsA Try.prog 122 #[v] H fun r H' => r = .bool (decide (sizeI l ≥ 0)) ∧ H' = H := by
  have e := fun Φ => (implSizeOf_ok hv hl).eq0 (Φ := Φ)
  refine w122 ?_
  unfold k122
  simp -implicitDefEqProofs only [kz, kk0, kk1, kk2, kk3, ↓two_true, ↓two_false, oS_some, oM_some, mkv, aggAt, Nat.reduceLeDiff, Nat.reduceSub, Nat.reduceMul, implies_true, Nat.reduceEqDiff, reduceIte, Nat.reduceAdd, Nat.reduceBEq, reduceCtorEq, e]

theorem growI_ok {n : Nat} (hn : n ≤ 1073741824) (H : AH) : CallsA Try.prog 151 #[.slice none 0 0, .int .i64 n] H fun r H' => (∃ a c, r = .slice a 0 c ∧ OwnRow H' (.slice a 0 c) [] ∧ ∀ b, blkOf (.slice a 0 c) = some b → H.length ≤ b) ∧ ∃ K, H' = H ++ K := by
  have w0 : IntKind.i64.wrap ((0 : Int) - ((0 : Nat) : Int)) = 0 := rfl
  have w1 : IntKind.i64.wrap ((n : Int) - 0) = n := by
    have : (n : Int) - 0 = n := by omega
    rw [this]
    first | exact IntWalk.i64_in _ (by omega) | rfl
  have d0 : decide ((n : Int) < 0) = false := by simp
  refine w151 ?_
  unfold k151
  simp -implicitDefEqProofs only [kz, kk0, kk1, kk2, kk3, ↓two_true, ↓two_false, oS_some, oM_some, mkv, aggAt, Nat.reduceLeDiff, Nat.reduceSub, Nat.reduceMul, implies_true, Nat.reduceEqDiff, reduceIte, Nat.reduceAdd, Nat.reduceBEq, reduceCtorEq, az24_3, cp24, ln24, sn24, sl24, d0, w0, w1]
  refine two_intro (fun h => ?_) (fun h => ?_)
  · have h' : 0 < n := by simpa using h
    refine ⟨⟨by omega, by omega, by omega⟩, ⟨by omega, by omega⟩, ⟨by omega, by omega, by omega⟩, ⟨_, _, rfl, OwnRow.at0 (by rw [gt0]; rfl), fun b hb => by simp [blkOf] at hb; omega⟩, _, rfl⟩
  · exact ⟨⟨_, _, rfl, OwnRow.nil, fun b hb => by simp [blkOf] at hb⟩, [], by simp⟩

def flatR (V : List CV) : List Int := (V.map fun x => match x with | .r l => l | _ => []).flatten
theorem flatR_snoc {V : List CV} {l : List Int} : flatR (V ++ [.r l]) = flatR V ++ l := by simp [flatR]
theorem flatR_len {V : List CV} : (flatR V).length = rsum V := by
  induction V with
  | nil => rfl
  | cons x V ih =>
    simp only [flatR, rsum, List.map_cons, List.flatten_cons, List.length_append, List.sum_cons] at ih ⊢
    rw [ih]
    cases x <;> rfl
theorem concatI_ok {H : AH} {v : Value} {n : Nat} {xs : List Value} (hv : FRow H v [.r] n xs) (hn : n ≤ 1048576) (hl : rsum (cvs H xs) ≤ 1073741824) :
    CallsA Try.prog 90 #[v] H fun r H' => (∃ a c, r = .slice a (flatR (cvs H xs)).length c ∧ OwnRow H' r (flatR (cvs H xs)) ∧ ∀ b, blkOf r = some b → H.length ≤ b) ∧ ∃ K, H' = H ++ K := by
  obtain ⟨a, c, rfl, gv⟩ := hv.opn 1 rfl
  have lx : xs.length = n * 1 := hv.len
  refine w90 ?_
  unfold k90
  simp -implicitDefEqProofs only [kz, kk0, kk1, kk2, kk3, ↓two_true, ↓two_false, oS_some, oM_some, mkv, aggAt, Nat.reduceLeDiff, Nat.reduceSub, Nat.reduceMul, implies_true, Nat.reduceEqDiff, reduceIte, Nat.reduceAdd, Nat.reduceBEq, reduceCtorEq, ap24_24, ix145, ld24, ln24, ln145]
  refine rW_loop (σ := Nat) (fun i tm H' => tm 0 = .slice a n c ∧ tm 9 = .slice a n c ∧ tm 10 = .int .i64 n ∧ tm 11 = .int .i64 i ∧ tm 3 = .int .i64 (rsum ((cvs H xs).take i)) ∧ i ≤ n ∧ H' = H) (fun i => n - i) 0 ?_ ?_
  · simp -implicitDefEqProofs [kk0, kk1, kk2, kk3, rW_block, ↓two_true, ↓two_false, rW_cond, rO_guard, oS_some, oM_some, mkv, aggAt, Nat.reduceLeDiff, Nat.reduceSub, Nat.reduceMul, cond_true, cond_false, Option.bind_some, List.length_append, List.length_cons, List.length_nil, List.append_assoc, List.cons_append, List.nil_append, List.set_cons_zero, List.set_cons_succ, List.size_toArray, List.all_cons, List.all_nil, List.drop_zero, List.drop_succ_cons, List.take_succ_cons, List.take_zero, List.mem_cons, Prod.mk.injEq, List.not_mem_nil, implies_true, List.getElem?_toArray, List.getElem?_cons_zero, List.getElem?_cons_succ, List.getElem?_nil, Option.getD_some, Option.getD_none, Nat.reduceEqDiff, reduceIte, Nat.reduceAdd, List.map_toArray, List.map_cons, List.map_nil, Bool.false_eq_true, Nat.reduceBEq, Option.map_some, Option.map_none, reduceCtorEq, ap24_24, ix145, ld24, ln24, ln145, rsum]
  · rintro i tm H' ⟨h0, h9, h10, h11, h3, hi, rfl⟩
    simp -implicitDefEqProofs only [kz, kk0, kk1, kk2, kk3, ↓two_true, ↓two_false, oS_some, oM_some, mkv, aggAt, Nat.reduceLeDiff, Nat.reduceSub, Nat.reduceMul, implies_true, Nat.reduceEqDiff, reduceIte, Nat.reduceAdd, Nat.reduceBEq, reduceCtorEq, ap24_24, ix145, ld24, ln24, ln145, h0, h9, h10, h11, h3]
    refine two_intro (fun hc => ?_) (fun hc => ?_)
    · have hlt : i < n := by simpa using hc
      obtain ⟨b, o, cs, rfl, rfl, hrd, hle, hcell⟩ := gv (by omega)
      obtain ⟨hagg, hce⟩ := hcell i hlt
      obtain ⟨y, _, e, k0, rfl⟩ := hv.elemn 1 rfl hlt
      rw [e] at hce
      have f0 : cs[o + i * 1]? = some y := hce 0 _ rfl
      have hsum : (cvs H' xs).take (i + 1) = (cvs H' xs).take i ++ [.r (rowI H' y)] := by
        have := cvs_take (H := H') (s := 1) (i := i) (xs := xs)
        rw [e] at this
        simp only [Nat.mul_one, List.map_cons, List.map_nil, cv_row k0.1] at this
        exact this
      have hs2 : rsum ((cvs H' xs).take (i + 1)) = rsum ((cvs H' xs).take i) + (rowI H' y).length := by rw [hsum, rsum_append]; simp [rsum, rsum1]
      have hs3 := rsum_take (l := cvs H' xs) (p := i + 1)
      obtain ⟨a1, c1, e1⟩ := k0.1.slice
      generalize rowI H' y = m at *
      subst e1
      rw [Nat.mul_one] at f0
      have d0 : decide (((rsum ((cvs H' xs).take i) : Int) + (m.length : Int)) < 0) = false := by simp; omega
      have w1 : IntKind.i64.wrap ((rsum ((cvs H' xs).take i) : Int) + (m.length : Int)) = (rsum ((cvs H' xs).take i) : Int) + (m.length : Int) := IntWalk.i64_in _ (by omega)
      simp -implicitDefEqProofs only [kz, kk0, kk1, kk2, kk3, ↓two_true, ↓two_false, oS_some, oM_some, mkv, aggAt, Nat.reduceLeDiff, Nat.reduceSub, Nat.reduceMul, implies_true, Nat.reduceEqDiff, reduceIte, Nat.reduceAdd, Nat.reduceBEq, reduceCtorEq, ap24_24, ix145, ld24, ln24, ln145, h0, h9, h10, h11, h3, Int.toNat_natCast, Nat.mul_one, hrd, f0, w1, d0, IntWalk.i64_in (↑i + 1) (by omega)]
      exact ⟨⟨by omega, by omega⟩, i + 1, by omega, by simp, by rw [hs2]; simp, hlt⟩
    · have hil : i = n := by have : ¬ i < n := by simpa using hc
                             omega
      subst hil
      have etk : (cvs H' xs).take i = cvs H' xs := List.take_of_length_le (by simp [cvs, lx])
      rw [etk]
      refine (growI_ok hl H').mono ?_
      rintro _ H2 ⟨⟨ga, gc, rfl, ho, hf⟩, hK⟩
      simp -implicitDefEqProofs only [kz, kk0, kk1, kk2, kk3, ↓two_true, ↓two_false, oS_some, oM_some, mkv, aggAt, Nat.reduceLeDiff, Nat.reduceSub, Nat.reduceMul, implies_true, Nat.reduceEqDiff, reduceIte, Nat.reduceAdd, Nat.reduceBEq, reduceCtorEq, ap24_24, ix145, ld24, ln24, ln145, h0]
      refine rW_loop (σ := Nat × Option Addr × Nat) (fun (j, a', c') tm H3 => tm 25 = .slice a i c ∧ tm 26 = .int .i64 i ∧ tm 27 = .int .i64 j ∧ tm 6 = .slice a' (flatR ((cvs H' xs).take j)).length c' ∧ j ≤ i ∧ OwnRow H3 (.slice a' (flatR ((cvs H' xs).take j)).length c') (flatR ((cvs H' xs).take j)) ∧ (∀ b, blkOf (.slice a' (flatR ((cvs H' xs).take j)).length c') = some b → H'.length ≤ b) ∧ ∃ K, H3 = H' ++ K) (fun s => i - s.1) (0, ga, gc) ?_ ?_
      · simp -implicitDefEqProofs [kk0, kk1, kk2, kk3, rW_block, ↓two_true, ↓two_false, rW_cond, rO_guard, oS_some, oM_some, mkv, aggAt, Nat.reduceLeDiff, Nat.reduceSub, Nat.reduceMul, cond_true, cond_false, Option.bind_some, List.length_append, List.length_cons, List.length_nil, List.append_assoc, List.cons_append, List.nil_append, List.set_cons_zero, List.set_cons_succ, List.size_toArray, List.all_cons, List.all_nil, List.drop_zero, List.drop_succ_cons, List.take_succ_cons, List.take_zero, List.mem_cons, Prod.mk.injEq, List.not_mem_nil, implies_true, List.getElem?_toArray, List.getElem?_cons_zero, List.getElem?_cons_succ, List.getElem?_nil, Option.getD_some, Option.getD_none, Nat.reduceEqDiff, reduceIte, Nat.reduceAdd, List.map_toArray, List.map_cons, List.map_nil, Bool.false_eq_true, Nat.reduceBEq, Option.map_some, Option.map_none, reduceCtorEq, ap24_24, ix145, ld24, ln24, ln145, flatR]
        exact ⟨ho, hf, hK⟩
      · clear h9 h10 h11 h3
        rintro ⟨j, a', c'⟩ tm H3 ⟨h25, h26, h27, h6, hj, ho3, hf3, he3⟩
        simp -implicitDefEqProofs only [kz, kk0, kk1, kk2, kk3, ↓two_true, ↓two_false, oS_some, oM_some, mkv, aggAt, Nat.reduceLeDiff, Nat.reduceSub, Nat.reduceMul, implies_true, Nat.reduceEqDiff, reduceIte, Nat.reduceAdd, Nat.reduceBEq, reduceCtorEq, ap24_24, ix145, ld24, ln24, ln145, h25, h26, h27, h6]
        refine two_intro (fun hc2 => ?_) (fun hc2 => ?_)
        · have hlt : j < i := by simpa using hc2
          obtain ⟨b, o, cs, rfl, rfl, hrd, hle, hcell⟩ := gv (by omega)
          obtain ⟨hagg, hce⟩ := hcell j hlt
          obtain ⟨y, _, e, k0, rfl⟩ := hv.elemn 1 rfl hlt
          rw [e] at hce
          have f0 : cs[o + j * 1]? = some y := hce 0 _ rfl
          have hsum : (cvs H' xs).take (j + 1) = (cvs H' xs).take j ++ [.r (rowI H' y)] := by
            have := cvs_take (H := H') (s := 1) (i := j) (xs := xs)
            rw [e] at this
            simp only [Nat.mul_one, List.map_cons, List.map_nil, cv_row k0.1] at this
            exact this
          have hs3 := rsum_take (l := cvs H' xs) (p := j + 1)
          have hfl : flatR ((cvs H' xs).take (j + 1)) = flatR ((cvs H' xs).take j) ++ rowI H' y := by rw [hsum, flatR_snoc]
          have hfll := flatR_len (V := (cvs H' xs).take (j + 1))
          rw [hfl, List.length_append] at hfll
          have hrow : IntRow H3 y (rowI H' y) := IntRow.ext k0.1 he3
          have hrd3 := rd_ext hrd he3
          obtain ⟨a1, c1, e1⟩ := k0.1.slice
          generalize rowI H' y = m at *
          subst e1
          rw [Nat.mul_one] at f0
          simp -implicitDefEqProofs only [kz, kk0, kk1, kk2, kk3, ↓two_true, ↓two_false, oS_some, oM_some, mkv, aggAt, Nat.reduceLeDiff, Nat.reduceSub, Nat.reduceMul, implies_true, Nat.reduceEqDiff, reduceIte, Nat.reduceAdd, Nat.reduceBEq, reduceCtorEq, ap24_24, ix145, ld24, ln24, ln145, h25, h26, h27, h6, Int.toNat_natCast, Nat.mul_one, hrd3, f0]
          refine ⟨⟨by omega, by omega⟩, ?_⟩
          refine oA_own ho3 hrow (by omega) fun a6 c6 H5 o6 x7 => ?_
          have he5 := x7.ext he3 hf3
          have hff := fun b (hb : blkOf (.slice a6 ((flatR ((cvs H' xs).take j)).length + m.length) c6) = some b) => (x7.new b hb).elim (hf3 b) fun h => by have := ext_len he3; omega
          rw [← List.length_append, ← hfl] at o6 hff ⊢
          simp -implicitDefEqProofs only [kz, kk0, kk1, kk2, kk3, ↓two_true, ↓two_false, oS_some, oM_some, mkv, aggAt, Nat.reduceLeDiff, Nat.reduceSub, Nat.reduceMul, implies_true, Nat.reduceEqDiff, reduceIte, Nat.reduceAdd, Nat.reduceBEq, reduceCtorEq, ap24_24, ix145, ld24, ln24, ln145, h25, h26, h27, h6, IntWalk.i64_in (↑j + 1) (by omega)]
          exact ⟨(j + 1, a6, c6), by simp only; omega, by simp, rfl, hlt, o6, hff, he5⟩
        · have hjl : j = i := by have : ¬ j < i := by simpa using hc2
                                 omega
          subst hjl
          rw [etk] at ho3 hf3 h6 ⊢
          exact ⟨⟨a', c', rfl, ho3, hf3⟩, he3⟩

theorem sizeI_le {l : List Int} : sizeI l ≤ 300 := by
  unfold sizeI
  split
  · omega
  · split
    · split <;> omega
    · omega
theorem arrOk_len {sh dt : List Int} (h : arrOk sh dt = true) : dt.length ≤ 300 := by
  unfold arrOk at h
  simp only [Bool.and_eq_true, beq_iff_eq] at h
  have := sizeI_le (l := sh)
  omega
/-- What is gathered so far. -/
theorem take_mem_succ {l : List Int} {i : Nat} {x : Int} (hx : l[i]? = some x) {u : Int} (hu : u ∈ l.take (i + 1)) : u ∈ l.take i ∨ u = x := by
  obtain ⟨h1, h2⟩ := List.getElem?_eq_some_iff.1 hx
  rw [List.take_succ_eq_append_getElem h1, h2] at hu
  rcases List.mem_append.1 hu with h | h
  · exact .inl h
  · exact .inr (List.mem_singleton.1 h)
theorem fRow2 {H : AH} {b : Nat} {p q : Value} (hb : H[b]? = some ⟨[p, q], .own⟩) (hp : KOk H .r p) (hq : KOk H .r q) : FRow H (.slice (some ⟨b, 0, none⟩) 2 1) [.r] 2 [p, q] := by
  refine ⟨rfl, .inr ⟨b, 0, [p, q], rfl, rd_own hb, by simp, fun j y hy => by rw [Nat.zero_add]; exact hy⟩, ?_⟩
  intro i c k y hi hk hy
  cases c with
  | zero =>
    simp at hk; subst hk
    match i, hi with
    | 0, _ => simp at hy; subst hy; exact hp
    | 1, _ => simp at hy; subst hy; exact hq
  | succ c => simp at hk
/-- What a function answers that makes an array and a code. -/
def ARes (H H' : AH) (r : Value) (R : (List Int × List Int) × Int) : Prop :=
  (∃ a c b d, r = .tuple #[.agg #[.slice a R.1.1.length c, .slice b R.1.2.length d], .int .i64 R.2] ∧ AOwn H H' (.agg #[.slice a R.1.1.length c, .slice b R.1.2.length d]) R.1.1 R.1.2 (.slice a R.1.1.length c) (.slice b R.1.2.length d)) ∧ ∃ K, H' = H ++ K
theorem ARes.nil {H H' : AH} {c : Int} (he : ∃ K, H' = H ++ K) : ARes H H' (.tuple #[.agg #[.slice none 0 0, .slice none 0 0], .int .i64 c]) (([], []), c) :=
  ⟨⟨Option.none, 0, Option.none, 0, rfl, ⟨rfl, OwnRow.nil, OwnRow.nil, fun b hb => by simp [blkOf] at hb, fun b hb => by simp [blkOf] at hb, fun b hb => by simp [blkOf] at hb⟩⟩, he⟩
structure Gro (H0 : AH) (bx : List (Nat × Blk)) (o : Nat) (sh : Value) (ss : List Int) (a' : Option Addr) (c' : Nat) (l : List Int) (H : AH) : Prop where
  bs : ∀ x ∈ bx, H[x.1]? = some x.2 ∧ x.1 < o
  out : H[o]? = some ⟨[sh, .slice a' l.length c'], .own⟩
  osh : OwnRow H sh ss
  od : OwnRow H (.slice a' l.length c') l
  nd : ∀ b, blkOf (.slice a' l.length c') = some b → o < b
  ns : ∀ b, blkOf sh = some b → H0.length ≤ b ∧ b < o ∧ ∀ x ∈ bx, x.1 ≠ b
  n0 : H0.length ≤ o
  ext : ∃ K, H = H0 ++ K
theorem Gro.mono {H0 H L : AH} {bx : List (Nat × Blk)} {o : Nat} {sh : Value} {ss : List Int} {a' : Option Addr} {c' : Nat} {l : List Int} (h : Gro H0 bx o sh ss a' c' l H) : Gro H0 bx o sh ss a' c' l (H ++ L) :=
  ⟨fun x hx => ⟨gtl (h.bs x hx).1, (h.bs x hx).2⟩, gtl h.out, h.osh.mono, h.od.mono, h.nd, h.ns, h.n0, app_ext h.ext⟩
/-- Numbers are put behind, and the box is written anew. -/
theorem Gro.push {H0 H H2 : AH} {bx : List (Nat × Blk)} {o : Nat} {sh : Value} {ss : List Int} {a' a2 : Option Addr} {c' c2 : Nat} {l m : List Int} (h : Gro H0 bx o sh ss a' c' l H)
    (ho : OwnRow H2 (.slice a2 (l.length + m.length) c2) (l ++ m)) (ha : App H (.slice a' l.length c') H2 (.slice a2 (l.length + m.length) c2)) :
    H2[o]? = some ⟨[sh, .slice a' l.length c'], .own⟩ ∧ (∀ x ∈ bx, H2[x.1]? = some x.2) ∧ Gro H0 bx o sh ss a2 c2 (l ++ m) (H2.set o ⟨[sh, .slice a2 (l.length + m.length) c2], .own⟩) := by
  have hne : ∀ b, b ≤ o → blkOf (.slice a' l.length c') ≠ some b := fun b hb e => by have := h.nd b e; omega
  have hol := (List.getElem?_eq_some_iff.1 h.out).1
  have k1 : H2[o]? = _ := (ha.keep o hol (hne o (Nat.le_refl _))).trans h.out
  have k2 : ∀ x ∈ bx, H2[x.1]? = some x.2 := fun x hx => by
    have := h.bs x hx
    rw [ha.keep x.1 (by omega) (hne _ (by omega)), this.1]
  have hn2 : ∀ b, blkOf (.slice a2 (l.length + m.length) c2) = some b → o < b := fun b hb => (ha.new b hb).elim (h.nd b) fun h => by omega
  refine ⟨k1, k2, ⟨fun x hx => ⟨?_, (h.bs x hx).2⟩, ?_, ?_, ?_, ?_, h.ns, h.n0, ?_⟩⟩
  · rw [List.getElem?_set_ne (by have := (h.bs x hx).2; omega)]
    exact k2 x hx
  · rw [List.length_append]; exact set_at k1
  · refine (ha.own h.osh fun b hb => hne b (by have := h.ns b hb; omega)).set fun e => ?_
    have := h.ns _ e; omega
  · rw [List.length_append]
    exact ho.set fun e => by have := hn2 _ e; omega
  · rw [List.length_append]; exact hn2
  · exact set_ext (ha.ext h.ext fun b hb => by have := h.nd b hb; have := h.n0; omega) h.n0
theorem Gro.aown {H0 H : AH} {bx : List (Nat × Blk)} {o : Nat} {sh : Value} {ss : List Int} {a' : Option Addr} {c' : Nat} {l : List Int} (h : Gro H0 bx o sh ss a' c' l H) {b : Nat} {k : Blk} (hb : b < o) (hs : blkOf sh ≠ some b) (h0 : H0.length ≤ b) :
    AOwn H0 (H.set b k) (.agg #[sh, .slice a' l.length c']) ss l sh (.slice a' l.length c') ∧ ∃ K, H.set b k = H0 ++ K := by
  refine ⟨⟨rfl, h.osh.set hs, h.od.set fun e => ?_, fun g h1 h2 => ?_, fun g hg => (h.ns g hg).1, fun g hg => ?_⟩, set_ext h.ext h0⟩
  · have := h.nd _ e; omega
  · have := h.nd _ h2; have := h.ns _ h1; omega
  · have := h.nd _ hg; have := h.n0; omega
def firstC : List Int → Int
  | [] => 0
  | c :: r => if c = 0 then firstC r else c
theorem firstC_app {l m : List Int} (h : ∀ c ∈ l, c = 0) : firstC (l ++ m) = firstC m := by
  induction l with
  | nil => rfl
  | cons c l ih =>
    simp only [List.cons_append, firstC]
    rw [if_pos (h c (by simp)), ih fun d hd => h d (by simp [hd])]
def outC (s : Int) (da db : List Int) : Int := firstC (da.flatMap fun x => db.map fun y => (twoF s x y).2)
def outD (s : Int) (da db : List Int) : List Int := da.flatMap fun x => db.map fun y => (twoF s x y).1
def outR (s : Int) (sa da sb db : List Int) : (List Int × List Int) × Int :=
  if (arrOk sa da && (arrOk sb db && sg2 s)) = true then
    (if (sa ++ sb).length > 3 then (([], []), 4) else if sizeI (sa ++ sb) ≥ 0 then (if outC s da db = 0 then ((sa ++ sb, outD s da db), 0) else (([], []), outC s da db)) else (([], []), 6))
  else (([], []), 1)
def outA (s : Int) (da db : List Int) (i k : Nat) : List Int := outD s (da.take i) db ++ (match da[i]? with | some x => (db.take k).map fun y => (twoF s x y).1 | none => [])
theorem outA_step {s : Int} {da db : List Int} {i k : Nat} {x y : Int} (hx : da[i]? = some x) (hy : db[k]? = some y) : outA s da db i (k + 1) = outA s da db i k ++ [(twoF s x y).1] := by
  obtain ⟨h1, h2⟩ := List.getElem?_eq_some_iff.1 hy
  unfold outA
  rw [hx]
  simp only
  rw [List.take_succ_eq_append_getElem h1, h2, List.map_append, ← List.append_assoc]
  rfl
theorem outA_zero {s : Int} {da db : List Int} {i : Nat} : outA s da db i 0 = outD s (da.take i) db := by
  unfold outA
  cases da[i]? <;> simp
theorem outA_next {s : Int} {da db : List Int} {i : Nat} {x : Int} (hx : da[i]? = some x) : outA s da db i db.length = outA s da db (i + 1) 0 := by
  obtain ⟨h1, h2⟩ := List.getElem?_eq_some_iff.1 hx
  rw [outA_zero]
  unfold outA outD
  rw [hx, List.take_length, List.take_succ_eq_append_getElem h1, h2, List.flatMap_append]
  simp
theorem outD_len {s : Int} {db : List Int} : ∀ {da : List Int}, (outD s da db).length = da.length * db.length
  | [] => by simp [outD]
  | x :: da => by
    have := outD_len (s := s) (db := db) (da := da)
    simp only [outD, List.flatMap_cons, List.length_append, List.length_map, List.length_cons] at this ⊢
    rw [this, Nat.add_mul, Nat.one_mul, Nat.add_comm]
theorem outA_len {s : Int} {da db : List Int} {i k : Nat} (ha : da.length ≤ 300) (hb : db.length ≤ 300) : (outA s da db i k).length ≤ 90300 := by
  have h1 := outD_len (s := s) (db := db) (da := da.take i)
  have h2 : (da.take i).length ≤ 300 := by simp; omega
  have h3 : (da.take i).length * db.length ≤ 300 * 300 := Nat.mul_le_mul h2 hb
  unfold outA
  rw [List.length_append, h1]
  generalize (da.take i).length * db.length = m at *
  cases da[i]? with
  | none => simp; omega
  | some x => simp; omega
theorem outC_fail {s : Int} {da db : List Int} {i k : Nat} {x y : Int} (hx : da[i]? = some x) (hy : db[k]? = some y) (h1 : ∀ u ∈ da.take i, ∀ w ∈ db, (twoF s u w).2 = 0) (h2 : ∀ w ∈ db.take k, (twoF s x w).2 = 0) (hc : (twoF s x y).2 ≠ 0) : outC s da db = (twoF s x y).2 := by
  obtain ⟨hi, ei⟩ := List.getElem?_eq_some_iff.1 hx
  obtain ⟨hk, ek⟩ := List.getElem?_eq_some_iff.1 hy
  unfold outC
  have e1 : da = da.take i ++ x :: da.drop (i + 1) := by rw [← ei, ← List.drop_eq_getElem_cons hi, List.take_append_drop]
  have e2 : db = db.take k ++ y :: db.drop (k + 1) := by rw [← ek, ← List.drop_eq_getElem_cons hk, List.take_append_drop]
  have e3 : (da.flatMap fun x => db.map fun y => (twoF s x y).2) = ((da.take i).flatMap fun x => db.map fun y => (twoF s x y).2) ++ ((db.take k).map (fun y => (twoF s x y).2) ++ ((twoF s x y).2 :: ((db.drop (k + 1)).map (fun y => (twoF s x y).2) ++ ((da.drop (i + 1)).flatMap fun x => db.map fun y => (twoF s x y).2)))) := by
    conv => lhs; rw [e1]
    rw [List.flatMap_append, List.flatMap_cons]
    congr 1
    conv => lhs; arg 1; rw [e2]
    simp
  rw [e3, firstC_app, firstC_app]
  · simp only [firstC]
    rw [if_neg hc]
  · intro c hc
    obtain ⟨w, hw, rfl⟩ := List.mem_map.1 hc
    exact h2 w hw
  · intro c hc
    obtain ⟨u, hu, hc⟩ := List.mem_flatMap.1 hc
    obtain ⟨w, hw, rfl⟩ := List.mem_map.1 hc
    exact h1 u hu w hw
theorem outC_zero {s : Int} {da db : List Int} (h : ∀ u ∈ da, ∀ w ∈ db, (twoF s u w).2 = 0) : outC s da db = 0 := by
  unfold outC
  have : ∀ c ∈ (da.flatMap fun x => db.map fun y => (twoF s x y).2), c = 0 := by
    intro c hc
    obtain ⟨u, hu, hc⟩ := List.mem_flatMap.1 hc
    obtain ⟨w, hw, rfl⟩ := List.mem_map.1 hc
    exact h u hu w hw
  have h2 := firstC_app (m := []) this
  rw [List.append_nil] at h2
  rw [h2]; rfl
theorem outR_lim {s : Int} {sa da sb db : List Int} : (outR s sa da sb db).1.1.length ≤ 1048576 ∧ (outR s sa da sb db).1.2.length ≤ 1048576 := by
  unfold outR
  split
  · rename_i h
    simp only [Bool.and_eq_true] at h
    have n2 := arrOk_len h.1
    have n4 := arrOk_len h.2.1
    split
    · simp
    · rename_i h3
      split
      · split
        · refine ⟨by show (sa ++ sb).length ≤ _; omega, ?_⟩
          show (outD s da db).length ≤ _
          rw [outD_len]
          have : da.length * db.length ≤ 300 * 300 := Nat.mul_le_mul n2 n4
          omega
        · simp
      · simp
  · simp

theorem implOuter_ok {H : AH} {s : Int} {pa qa pb qb : Value} {sa da sb db : List Int} (h1 : IntRow H pa sa) (h2 : IntRow H qa da) (h3 : IntRow H pb sb) (h4 : IntRow H qb db) (l1 : sa.length ≤ 1048576) (l2 : da.length ≤ 1048576) (l3 : sb.length ≤ 1048576) (l4 : db.length ≤ 1048576) :
    CallsA Try.prog 53 #[.int .i64 s, .agg #[pa, qa], .agg #[pb, qb]] H fun r H' => ARes H H' r (outR s sa da sb db) := by
  obtain ⟨a1, c1, rfl, g1⟩ := h1.op
  obtain ⟨a2, c2, rfl, g2⟩ := h2.op
  obtain ⟨a3, c3, rfl, g3⟩ := h3.op
  obtain ⟨a4, c4, rfl, g4⟩ := h4.op
  refine w53 ?_
  unfold k53
  simp -implicitDefEqProofs only [kz, kk0, kk1, kk2, kk3, ↓two_true, ↓two_false, oS_some, oM_some, mkv, aggAt, Nat.reduceLeDiff, Nat.reduceSub, Nat.reduceMul, implies_true, Nat.reduceEqDiff, reduceIte, Nat.reduceAdd, Nat.reduceBEq, reduceCtorEq, al26, ap24_24, bd26, bs24_1, bs145_2, fa26_0, fa26_1, ix24, ld3, ld24, ld26, ln24, st24, st26]
  have kA : KOk H .r (.slice a1 sa.length c1) := ⟨h1.ok, by rw [h1.row]; omega⟩
  have kB : KOk H .r (.slice a3 sb.length c3) := ⟨h3.ok, by rw [h3.row]; omega⟩
  have hcv : ∀ L : AH, cvs (H ++ L) [.slice a1 sa.length c1, .slice a3 sb.length c3] = [.r sa, .r sb] := fun L => by
    simp only [cvs, List.map_cons, List.map_nil, cv_row (h1.mono (L := L)).ok, cv_row (h3.mono (L := L)).ok, (h1.mono (L := L)).row, (h3.mono (L := L)).row]
  refine (concatI_ok (fRow2 (by rw [gti]; rfl) kA.mono kB.mono) (by decide) (by rw [hcv]; simp [rsum, rsum1]; omega)).mono ?_
  rw [hcv]
  rintro _ H1 ⟨⟨xa, xc, rfl, ho, hf⟩, hK⟩
  have hfl : flatR [CV.r sa, CV.r sb] = sa ++ sb := by simp [flatR]
  rw [hfl] at ho hf ⊢
  simp only [List.length_append] at ho hf
  have he1 := ext_trans (H := H) ⟨_, rfl⟩ hK
  have b0 := get_ext (b := H.length) (by rw [gt0]; rfl) hK
  have b1 := get_ext (b := H.length + 1) (by rw [gti]; rfl) hK
  have b2 := get_ext (b := H.length + 2) (by rw [gti]; rfl) hK
  have hl1 := ext_len hK
  simp only [List.length_append, List.length_cons, List.length_nil] at hl1 hf
  clear hK
  have ea := fun (L : AH) Φ => (implArrayOk_ok (H := H1 ++ L) ((h1.ext he1).mono (L := L)) ((h2.ext he1).mono (L := L)) (by omega) (by omega)).eqV (Φ := Φ)
  have eb := fun (L : AH) Φ => (implArrayOk_ok (H := H1 ++ L) ((h3.ext he1).mono (L := L)) ((h4.ext he1).mono (L := L)) (by omega) (by omega)).eqV (Φ := Φ)
  have es := fun (L : AH) Φ => (implShapeOk_ok (H := H1 ++ L) (ho.int.mono (L := L)) (by simp; omega)).eq0 (Φ := Φ)
  have r0 := rd_own b0
  have r1 := rd_own b1
  have q0 := fun L => rd_own (gtl (L := L) b0)
  have q1 := fun L => rd_own (gtl (L := L) b1)
  have q2 := fun L => wrt_own (gtl (L := L) b2)
  have q3 := fun (L : AH) (k : List Value) => rd_own (cs := k) (set_at (k' := ⟨k, .own⟩) (gtl (L := L) b2))
  have fail : ∀ (L : AH) (k : Blk) (c : Int), ARes H ((H1 ++ L).set (H.length + 2) k) (.tuple #[.agg #[.slice none 0 0, .slice none 0 0], .int .i64 c]) (([], []), c) := fun L k c => ARes.nil (set_ext (app_ext he1) (by omega))
  unfold outR
  simp -implicitDefEqProofs only [kz, kk0, kk1, kk2, kk3, ↓two_true, ↓two_false, oS_some, oM_some, mkv, aggAt, Nat.reduceLeDiff, Nat.reduceSub, Nat.reduceMul, implies_true, Nat.reduceEqDiff, reduceIte, Nat.reduceAdd, Nat.reduceBEq, reduceCtorEq, al26, ap24_24, bd26, bs24_1, bs145_2, fa26_0, fa26_1, ix24, ld3, ld24, ld26, ln24, st24, st26, ea, eb, es, twoSign_eq, r0, r1, q0, q1, q2, q3]
  refine two_intro (fun u1 => ?_) (fun u1 => ?_)
  · rw [show arrOk sa da = false by simpa using u1]
    exact fail _ _ _
  · have v1 : arrOk sa da = true := by simpa using u1
    rw [v1]
    refine two_intro (fun u2 => ?_) (fun u2 => ?_)
    · rw [show arrOk sb db = false by simpa using u2]
      exact fail _ _ _
    · have v2 : arrOk sb db = true := by simpa using u2
      rw [v2]
      refine two_intro (fun u3 => ?_) (fun u3 => ?_)
      · rw [show sg2 s = false by simpa using u3]
        exact fail _ _ _
      · rw [show sg2 s = true by simpa using u3]
        refine two_intro (fun u4 => ?_) (fun u4 => ?_)
        · rw [if_pos (by rfl), if_pos (by simp at u4 ⊢; omega)]
          exact fail _ _ _
        · refine two_intro (fun u5 => ?_) (fun u5 => ?_)
          · rw [if_pos (by rfl), if_neg (by simp at u4 ⊢; omega), if_neg (by simpa using u5)]
            exact fail _ _ _
          · rw [if_pos (by rfl), if_neg (by simp at u4 ⊢; omega), if_pos (by simpa using u5)]
            have n2 := arrOk_len v1
            have n4 := arrOk_len v2
            generalize hbx : ([(H.length, ⟨[.slice a1 sa.length c1, .slice a2 da.length c2], .own⟩), (H.length + 1, ⟨[.slice a3 sb.length c3, .slice a4 db.length c4], .own⟩), (H.length + 2, ⟨[.slice none 0 0, .slice none 0 0], .own⟩)] : List (Nat × Blk)) = bx
            have hget : ∀ {H' : AH} {a' : Option Addr} {c' : Nat} {l : List Int}, Gro H bx H1.length (.slice xa (sa.length + sb.length) xc) (sa ++ sb) a' c' l H' → H'[H.length + 1]? = some ⟨[.slice a3 sb.length c3, .slice a4 db.length c4], .own⟩ ∧ H'[H.length + 2]? = some ⟨[.slice none 0 0, .slice none 0 0], .own⟩ := by
              intro H' a' c' l g
              rw [← hbx] at g
              exact ⟨(g.bs (H.length + 1, ⟨[.slice a3 sb.length c3, .slice a4 db.length c4], .own⟩) (by simp)).1, (g.bs (H.length + 2, ⟨[.slice none 0 0, .slice none 0 0], .own⟩) (by simp)).1⟩
            have r2 : IntRow H _ da := h2
            have r4 : IntRow H _ db := h4
            refine rW_loop (σ := Nat × Option Addr × Nat) (fun (i, a', c') tm H' => tm 0 = .int .i64 s ∧ tm 5 = .pointer (some ⟨H.length + 1, 0, none⟩) ∧ tm 6 = .pointer (some ⟨H.length + 2, 0, none⟩) ∧ tm 8 = .pointer (some ⟨H1.length, 0, none⟩) ∧ tm 50 = .slice a2 da.length c2 ∧ tm 51 = .int .i64 da.length ∧ tm 52 = .int .i64 i ∧ i ≤ da.length ∧
              Gro H bx H1.length (.slice xa (sa.length + sb.length) xc) (sa ++ sb) a' c' (outA s da db i 0) H' ∧ (∀ u ∈ da.take i, ∀ w ∈ db, (twoF s u w).2 = 0)) (fun s => da.length - s.1) (0, none, 0) ?_ ?_
            · simp -implicitDefEqProofs [kk0, kk1, kk2, kk3, rW_block, ↓two_true, ↓two_false, rW_cond, rO_guard, oS_some, oM_some, mkv, aggAt, Nat.reduceLeDiff, Nat.reduceSub, Nat.reduceMul, cond_true, cond_false, Option.bind_some, List.length_append, List.length_cons, List.length_nil, List.append_assoc, List.cons_append, List.nil_append, List.set_cons_zero, List.set_cons_succ, List.size_toArray, List.all_cons, List.all_nil, List.drop_zero, List.drop_succ_cons, List.take_succ_cons, List.take_zero, List.mem_cons, Prod.mk.injEq, List.not_mem_nil, implies_true, List.getElem?_toArray, List.getElem?_cons_zero, List.getElem?_cons_succ, List.getElem?_nil, Option.getD_some, Option.getD_none, Nat.reduceEqDiff, reduceIte, Nat.reduceAdd, List.map_toArray, List.map_cons, List.map_nil, Bool.false_eq_true, Nat.reduceBEq, Option.map_some, Option.map_none, reduceCtorEq, al26, ap24_24, bd26, bs24_1, bs145_2, fa26_0, fa26_1, ix24, ld3, ld24, ld26, ln24, st24, st26]
              have : outA s da db 0 0 = [] := by rw [outA_zero]; rfl
              rw [this]
              refine ⟨?_, by rw [gt0]; rfl, ho.mono, OwnRow.nil, fun b hb => by simp [blkOf] at hb, fun b hb => ?_, by omega, app_ext he1⟩
              · rw [← hbx]
                intro x hx
                simp only [List.mem_cons, List.not_mem_nil, or_false] at hx
                rcases hx with rfl | rfl | rfl
                · exact ⟨gtl b0, by simp only; omega⟩
                · exact ⟨gtl b1, by simp only; omega⟩
                · exact ⟨gtl b2, by simp only; omega⟩
              · have x1 := hf b hb
                have x2 := ho.lt b hb
                refine ⟨by omega, x2, ?_⟩
                rw [← hbx]
                intro x hx
                simp only [List.mem_cons, List.not_mem_nil, or_false] at hx
                rcases hx with rfl | rfl | rfl <;> simp only <;> omega
            · rintro ⟨i, a', c'⟩ tm H2 ⟨t0, t5, t6, t8, t50, t51, t52, hi, hg, hz⟩
              simp -implicitDefEqProofs only [kz, kk0, kk1, kk2, kk3, ↓two_true, ↓two_false, oS_some, oM_some, mkv, aggAt, Nat.reduceLeDiff, Nat.reduceSub, Nat.reduceMul, implies_true, Nat.reduceEqDiff, reduceIte, Nat.reduceAdd, Nat.reduceBEq, reduceCtorEq, al26, ap24_24, bd26, bs24_1, bs145_2, fa26_0, fa26_1, ix24, ld3, ld24, ld26, ln24, st24, st26, t0, t5, t6, t8, t50, t51, t52]
              refine two_intro (fun hc => ?_) (fun hc => ?_)
              · have hlt : i < da.length := by simpa using hc
                obtain ⟨b, o, cs, rfl, rfl, hrd, _, hcell⟩ := g2 (by omega)
                have hrd2 := rd_ext hrd hg.ext
                have hx : da[i]? = some da[i] := List.getElem?_eq_getElem hlt
                generalize hxx : da[i] = x at hx
                have hcx := hcell i hlt
                rw [hxx] at hcx
                have e1 := rd_own (hget hg).1
                simp -implicitDefEqProofs only [kz, kk0, kk1, kk2, kk3, ↓two_true, ↓two_false, oS_some, oM_some, mkv, aggAt, Nat.reduceLeDiff, Nat.reduceSub, Nat.reduceMul, implies_true, Nat.reduceEqDiff, reduceIte, Nat.reduceAdd, Nat.reduceBEq, reduceCtorEq, al26, ap24_24, bd26, bs24_1, bs145_2, fa26_0, fa26_1, ix24, ld3, ld24, ld26, ln24, st24, st26, t0, t5, t6, t8, t50, t51, t52, Int.toNat_natCast, Nat.mul_one, hrd2, hcx, e1]
                refine ⟨⟨by omega, by omega⟩, ?_⟩
                refine rW_loop (σ := Nat × Option Addr × Nat) (fun (k, a', c') tm H' => tm 0 = .int .i64 s ∧ tm 5 = .pointer (some ⟨H.length + 1, 0, none⟩) ∧ tm 6 = .pointer (some ⟨H.length + 2, 0, none⟩) ∧ tm 8 = .pointer (some ⟨H1.length, 0, none⟩) ∧ tm 50 = .slice (some ⟨b, o, none⟩) da.length 1 ∧ tm 51 = .int .i64 da.length ∧ tm 52 = .int .i64 i ∧ tm 10 = .int .i64 x ∧ tm 57 = .slice a4 db.length c4 ∧ tm 58 = .int .i64 db.length ∧ tm 59 = .int .i64 k ∧ k ≤ db.length ∧
                  Gro H bx H1.length (.slice xa (sa.length + sb.length) xc) (sa ++ sb) a' c' (outA s da db i k) H' ∧ (∀ w ∈ db.take k, (twoF s x w).2 = 0)) (fun s => db.length - s.1) (0, a', c') ?_ ?_
                · simp -implicitDefEqProofs [kk0, kk1, kk2, kk3, rW_block, ↓two_true, ↓two_false, rW_cond, rO_guard, oS_some, oM_some, mkv, aggAt, Nat.reduceLeDiff, Nat.reduceSub, Nat.reduceMul, cond_true, cond_false, Option.bind_some, List.length_append, List.length_cons, List.length_nil, List.append_assoc, List.cons_append, List.nil_append, List.set_cons_zero, List.set_cons_succ, List.size_toArray, List.all_cons, List.all_nil, List.drop_zero, List.drop_succ_cons, List.take_succ_cons, List.take_zero, List.mem_cons, Prod.mk.injEq, List.not_mem_nil, implies_true, List.getElem?_toArray, List.getElem?_cons_zero, List.getElem?_cons_succ, List.getElem?_nil, Option.getD_some, Option.getD_none, Nat.reduceEqDiff, reduceIte, Nat.reduceAdd, List.map_toArray, List.map_cons, List.map_nil, Bool.false_eq_true, Nat.reduceBEq, Option.map_some, Option.map_none, reduceCtorEq, al26, ap24_24, bd26, bs24_1, bs145_2, fa26_0, fa26_1, ix24, ld3, ld24, ld26, ln24, st24, st26, t0, t5, t6, t8, t50, t51, t52]
                  exact hg
                · clear t0 t5 t6 t8 t50 t51 t52 hg hrd2 e1
                  rintro ⟨k, a', c'⟩ tm H3 ⟨t0, t5, t6, t8, t50, t51, t52, t10, t57, t58, t59, hk, hg, hzk⟩
                  simp -implicitDefEqProofs only [kz, kk0, kk1, kk2, kk3, ↓two_true, ↓two_false, oS_some, oM_some, mkv, aggAt, Nat.reduceLeDiff, Nat.reduceSub, Nat.reduceMul, implies_true, Nat.reduceEqDiff, reduceIte, Nat.reduceAdd, Nat.reduceBEq, reduceCtorEq, al26, ap24_24, bd26, bs24_1, bs145_2, fa26_0, fa26_1, ix24, ld3, ld24, ld26, ln24, st24, st26, t0, t5, t6, t8, t50, t51, t52, t10, t57, t58, t59]
                  refine two_intro (fun hc2 => ?_) (fun hc2 => ?_)
                  · have hlk : k < db.length := by simpa using hc2
                    obtain ⟨b', o', cs', rfl, rfl, hrd', _, hcell'⟩ := g4 (by omega)
                    have hrd3 := rd_ext hrd' hg.ext
                    have hy : db[k]? = some db[k] := List.getElem?_eq_getElem hlk
                    generalize hyy : db[k] = y at hy
                    have hcy := hcell' k hlk
                    rw [hyy] at hcy
                    have e2 := rd_own hg.out
                    have et := fun Φ => (implTwo_ok s x y H3).eq0 (Φ := Φ)
                    have e3 := wrt_own (hget hg).2
                    have e4 := rd_own (set_at (k' := ⟨[.slice none 0 0, .slice none 0 0], .own⟩) (hget hg).2)
                    simp -implicitDefEqProofs only [kz, kk0, kk1, kk2, kk3, ↓two_true, ↓two_false, oS_some, oM_some, mkv, aggAt, Nat.reduceLeDiff, Nat.reduceSub, Nat.reduceMul, implies_true, Nat.reduceEqDiff, reduceIte, Nat.reduceAdd, Nat.reduceBEq, reduceCtorEq, al26, ap24_24, bd26, bs24_1, bs145_2, fa26_0, fa26_1, ix24, ld3, ld24, ld26, ln24, st24, st26, t0, t5, t6, t8, t50, t51, t52, t10, t57, t58, t59, Int.toNat_natCast, Nat.mul_one, hrd3, hcy, et, e2, e3, e4]
                    refine ⟨⟨by omega, by omega⟩, two_intro (fun h => ?_) (fun h => ?_)⟩
                    · have hc3 : (twoF s x y).2 ≠ 0 := by simpa using h
                      have hcc := outC_fail hx hy hz hzk hc3
                      rw [hcc, if_neg hc3]
                      exact ARes.nil (set_ext hg.ext (by omega))
                    · have hc3 : (twoF s x y).2 = 0 := by simpa using h
                      have hll := outA_len (s := s) (i := i) (k := k) n2 n4
                      refine oA_own hg.od.mono intRow1 (by simp; omega) fun a6 c6 H5 o6 x7 => ?_
                      obtain ⟨p1, p2, p3⟩ := hg.mono.push o6 x7
                      rw [← outA_step hx hy] at p3
                      have e6 := wrt_own p1
                      simp -implicitDefEqProofs only [kz, kk0, kk1, kk2, kk3, ↓two_true, ↓two_false, oS_some, oM_some, mkv, aggAt, Nat.reduceLeDiff, Nat.reduceSub, Nat.reduceMul, implies_true, Nat.reduceEqDiff, reduceIte, Nat.reduceAdd, Nat.reduceBEq, reduceCtorEq, al26, ap24_24, bd26, bs24_1, bs145_2, fa26_0, fa26_1, ix24, ld3, ld24, ld26, ln24, st24, st26, t0, t5, t6, t8, t50, t51, t52, t10, t57, t58, t59, e6, IntWalk.i64_in (↑k + 1) (by omega)]
                      simp only [List.length_cons, List.length_nil, Nat.zero_add] at p3
                      exact ⟨(k + 1, a6, c6), by simp only; omega, by simp, hlk, p3, fun w hw => (take_mem_succ hy hw).elim (hzk w) fun e => by rw [e]; exact hc3⟩
                  · have hkl : k = db.length := by have : ¬ k < db.length := by simpa using hc2
                                                   omega
                    subst hkl
                    rw [outA_next hx] at hg
                    rw [List.take_length] at hzk
                    rw [IntWalk.i64_in (↑i + 1) (by omega)]
                    exact ⟨(i + 1, a', c'), by simp only; omega, by simp, hlt, hg, fun u hu w hw => (take_mem_succ hx hu).elim (fun h => hz u h w hw) fun e => by rw [e]; exact hzk w hw⟩
              · have hil : i = da.length := by have : ¬ i < da.length := by simpa using hc
                                               omega
                subst hil
                rw [List.take_length] at hz
                rw [outA_zero, List.take_length] at hg
                have e2 := rd_own hg.out
                have e3 := wrt_own (hget hg).2
                have e4 := rd_own (set_at (k' := ⟨[.slice xa (sa.length + sb.length) xc, .slice a' (outD s da db).length c'], .own⟩) (hget hg).2)
                simp -implicitDefEqProofs only [kz, kk0, kk1, kk2, kk3, ↓two_true, ↓two_false, oS_some, oM_some, mkv, aggAt, Nat.reduceLeDiff, Nat.reduceSub, Nat.reduceMul, implies_true, Nat.reduceEqDiff, reduceIte, Nat.reduceAdd, Nat.reduceBEq, reduceCtorEq, al26, ap24_24, bd26, bs24_1, bs145_2, fa26_0, fa26_1, ix24, ld3, ld24, ld26, ln24, st24, st26, t6, t8, e2, e3, e4]
                rw [outC_zero hz, if_pos rfl]
                have hns : ∀ b, b < H.length + 4 → blkOf (.slice xa (sa.length + sb.length) xc) ≠ some b := fun b hb e => by have := hf b e; omega
                have hr := hg.aown (b := H.length + 2) (k := ⟨[.slice xa (sa.length + sb.length) xc, .slice a' (outD s da db).length c'], .own⟩) (by omega) (hns _ (by omega)) (by omega)
                have hsl : sa.length + sb.length = (sa ++ sb).length := by simp
                rw [hsl] at hr ⊢
                exact ⟨⟨xa, xc, a', c', rfl, hr.1⟩, hr.2⟩
end Go.Proofs.Ytockhdhilemfkaa.AM
