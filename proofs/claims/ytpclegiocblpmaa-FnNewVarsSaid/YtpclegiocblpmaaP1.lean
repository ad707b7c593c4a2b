/- What the functions answer, part 1. -/
import Derived.Test.YtpclegiocblpmaaK1
set_option linter.unusedVariables false
set_option linter.unusedSimpArgs false
set_option linter.defProp false
set_option maxRecDepth 100000
/- What the functions answer, part 1. -/
namespace Go.Proofs.Ytpclegiocblpmaa.AM
open Go Go.Proofs.Ytpclegiocblpmaa Go.Proofs
theorem RpA.cons {P : Program} {H : AH} {t : TypeId} {ts : List TypeId} {vs : List Value} (h : RpA P H (t :: ts) vs) : ∃ v vs', vs = v :: vs' ∧ RpV P H t v ∧ RpA P H ts vs' := by
  cases vs with
  | nil => exact h.elim
  | cons v vs => exact ⟨v, vs, rfl, h.1, h.2⟩
theorem RpA.nil {P : Program} {H : AH} {vs : List Value} (h : RpA P H [] vs) : vs = [] := by
  cases vs with
  | nil => rfl
  | cons v vs => exact h.elim
theorem Rp.int {P : Program} {H : AH} {k : Nat} {t : TypeId} {q : IntKind} {vs : List Value} (hu : P.underlying t = some (.int q)) (h : Rp P H k t vs) : ∃ n, vs = [.int q n] ∧ (Lit.int q n).wf = true := by
  cases k with
  | zero => exact h.elim
  | succ k => simpa only [Rp, hu] using h
theorem bs_size {a : Array UInt8} : (ByteArray.mk a).size = a.size := rfl
/-- Bounds of an int. -/
def I64 (n : Int) : Prop := -9223372036854775808 ≤ n ∧ n ≤ 9223372036854775807
theorem wf_i64 {n : Int} (h : (Lit.int .i64 n).wf = true) : I64 n := by
  simp [Lit.wf, IntKind.min, IntKind.max, IntKind.bits, IntKind.signed] at h
  exact ⟨by omega, by omega⟩

def sg1 (s : Int) : Bool := s == 43 || s == 45 || s == 42 || s == 124 || s == 126
def sg2 (s : Int) : Bool := s == 43 || s == 45 || s == 42 || s == 37 || s == 124 || s == 38 || s == 94 || s == 61 || s == 60 || s == 62
def hasS (l : ByteArray) (s : Int) : Bool := (List.range l.size).any fun i => s == byt l i
theorem hasS_true {l : ByteArray} {s : Int} : hasS l s = true ↔ ∃ i, i < l.size ∧ byt l i = s := by
  simp only [hasS, List.any_eq_true, List.mem_range, beq_iff_eq]
  exact ⟨fun ⟨i, h1, h2⟩ => ⟨i, h1, h2.symm⟩, fun ⟨i, h1, h2⟩ => ⟨i, h1, h2.symm⟩⟩
theorem hasS_1 {s : Int} : hasS ⟨#[43, 45, 42, 124, 126]⟩ s = sg1 s := by
  show ((s == 43) || ((s == 45) || ((s == 42) || ((s == 124) || ((s == 126) || false))))) = _
  simp [sg1, Bool.or_assoc]
theorem hasS_2 {s : Int} : hasS ⟨#[43, 45, 42, 37, 124, 38, 94, 61, 60, 62]⟩ s = sg2 s := by
  show ((s == 43) || ((s == 45) || ((s == 42) || ((s == 37) || ((s == 124) || ((s == 38) || ((s == 94) || ((s == 61) || ((s == 60) || ((s == 62) || false)))))))))) = _
  simp [sg2, Bool.or_assoc]
theorem hasS_3 {s : Int} : hasS ⟨#[105, 35, 44, 114, 122, 103]⟩ s = (s == 105 || s == 35 || s == 44 || s == 114 || s == 122 || s == 103) := by
  show ((s == 105) || ((s == 35) || ((s == 44) || ((s == 114) || ((s == 122) || ((s == 103) || false)))))) = _
  simp [Bool.or_assoc]
theorem hasS_4 {s : Int} : hasS ⟨#[35, 44, 116, 100, 114, 64, 63, 36, 101]⟩ s = (s == 35 || s == 44 || s == 116 || s == 100 || s == 114 || s == 64 || s == 63 || s == 36 || s == 101) := by
  show ((s == 35) || ((s == 44) || ((s == 116) || ((s == 100) || ((s == 114) || ((s == 64) || ((s == 63) || ((s == 36) || ((s == 101) || false))))))))) = _
  simp [Bool.or_assoc]
def inB (x a b : Int) : Bool := decide (a ≤ x) && decide (x ≤ b)
theorem inB_true {x a b : Int} : inB x a b = true ↔ a ≤ x ∧ x ≤ b := by simp [inB]
def numOk (x : Int) : Bool := inB x (-1000000000000) 1000000000000

set_option maxHeartbeats 4000000 in
theorem hasSign_ok (l : ByteArray) (s : Int) (H : AH) (hl : l.size < 9223372036854775807) : CallsA Try.prog 108 #[.string l, .int .i64 s] H fun r H' => r = .bool (hasS l s) ∧ H' = H := by
  refine w108 ?_
  unfold k108
  simp -implicitDefEqProofs only [kz, kk0, kk1, kk2, kk3, ↓two_true, ↓two_false, oS_some, oM_some, mkv, aggAt, Nat.reduceLeDiff, Nat.reduceSub, Nat.reduceMul, implies_true, Nat.reduceEqDiff, reduceIte, Nat.reduceAdd, Nat.reduceBEq, reduceCtorEq, cv5_3, (idx_str us9), ln9]
  refine rW_loop (σ := Nat) (fun i tm H' => tm 0 = .string l ∧ tm 1 = .int .i64 s ∧ tm 5 = .int .i64 i ∧ H' = H ∧ i ≤ l.size ∧ ∀ j, j < i → byt l j ≠ s) (fun i => l.size - i) 0 ?_ ?_
  · simp -implicitDefEqProofs [kk0, kk1, kk2, kk3, rW_block, ↓two_true, ↓two_false, rW_cond, rO_guard, oS_some, oM_some, mkv, aggAt, Nat.reduceLeDiff, Nat.reduceSub, Nat.reduceMul, cond_true, cond_false, Option.bind_some, List.length_append, List.length_cons, List.length_nil, List.append_assoc, List.cons_append, List.nil_append, List.set_cons_zero, List.set_cons_succ, List.size_toArray, List.all_cons, List.all_nil, List.drop_zero, List.drop_succ_cons, List.take_succ_cons, List.take_zero, List.mem_cons, Prod.mk.injEq, List.not_mem_nil, implies_true, List.getElem?_toArray, List.getElem?_cons_zero, List.getElem?_cons_succ, List.getElem?_nil, Option.getD_some, Option.getD_none, Nat.reduceEqDiff, reduceIte, Nat.reduceAdd, List.map_toArray, List.map_cons, List.map_nil, Bool.false_eq_true, Nat.reduceBEq, Option.map_some, Option.map_none, reduceCtorEq, cv5_3, (idx_str us9), ln9]
  · rintro i tm H' ⟨h0, h1, h5, rfl, hi, hn⟩
    simp -implicitDefEqProofs only [kz, kk0, kk1, kk2, kk3, ↓two_true, ↓two_false, oS_some, oM_some, mkv, aggAt, Nat.reduceLeDiff, Nat.reduceSub, Nat.reduceMul, implies_true, Nat.reduceEqDiff, reduceIte, Nat.reduceAdd, Nat.reduceBEq, reduceCtorEq, cv5_3, (idx_str us9), ln9, h0, h1, h5]
    refine two_intro (fun hc => ?_) (fun hc => ?_)
    · have hc' : i < l.size := by simpa using hc
      have hb := byt_range l i
      rw [IntWalk.i64_in (↑i + 1) (by omega)]
      simp only [Int.toNat_natCast]
      rw [IntWalk.i64_in (byt l i) (by omega)]
      refine ⟨⟨by omega, by omega⟩, two_intro (fun h => ?_) (fun h => ?_)⟩
      · rw [hasS_true.2 ⟨i, hc', by simpa using h⟩]
      · refine ⟨i + 1, by omega, by simp, hc', fun j hj => ?_⟩
        rcases Nat.lt_or_ge j i with h1 | h1
        · exact hn j h1
        · have : j = i := by omega
          subst this
          simpa using h
    · have hc' : ¬ i < l.size := by simpa using hc
      have : hasS l s = false := by
        rw [← Bool.not_eq_true, hasS_true]
        rintro ⟨j, h1, h2⟩
        exact hn j (by omega) h2
      rw [this]
theorem hasSign_eq {l : ByteArray} {s : Int} {H : AH} (hl : l.size < 9223372036854775807) {Φ : Value → AH → Prop} : CallsA Try.prog 108 #[.string l, .int .i64 s] H Φ = Φ (.bool (hasS l s)) H := (hasSign_ok l s H hl).eq0

set_option maxHeartbeats 4000000 in
theorem oneSign_ok (s : Int) (H : AH) : CallsA Try.prog 107 #[.int .i64 s] H fun r H' => r = .bool (sg1 s) ∧ H' = H := by
  refine w107 ?_
  unfold k107
  simp -implicitDefEqProofs only [kz, kk0, kk1, kk2, kk3, ↓two_true, ↓two_false, oS_some, oM_some, mkv, aggAt, Nat.reduceLeDiff, Nat.reduceSub, Nat.reduceMul, implies_true, Nat.reduceEqDiff, reduceIte, Nat.reduceAdd, Nat.reduceBEq, reduceCtorEq, hasSign_eq, bs_size, Nat.reduceLT, hasS_1]
theorem oneSign_eq {s : Int} {H : AH} {Φ : Value → AH → Prop} : CallsA Try.prog 107 #[.int .i64 s] H Φ = Φ (.bool (sg1 s)) H := (oneSign_ok s H).eq0

set_option maxHeartbeats 4000000 in
theorem twoSign_ok (s : Int) (H : AH) : CallsA Try.prog 109 #[.int .i64 s] H fun r H' => r = .bool (sg2 s) ∧ H' = H := by
  refine w109 ?_
  unfold k109
  simp -implicitDefEqProofs only [kz, kk0, kk1, kk2, kk3, ↓two_true, ↓two_false, oS_some, oM_some, mkv, aggAt, Nat.reduceLeDiff, Nat.reduceSub, Nat.reduceMul, implies_true, Nat.reduceEqDiff, reduceIte, Nat.reduceAdd, Nat.reduceBEq, reduceCtorEq, hasSign_eq, bs_size, Nat.reduceLT, hasS_2]
theorem twoSign_eq {s : Int} {H : AH} {Φ : Value → AH → Prop} : CallsA Try.prog 109 #[.int .i64 s] H Φ = Φ (.bool (sg2 s)) H := (twoSign_ok s H).eq0

set_option maxHeartbeats 4000000 in
theorem within_ok (x a b : Int) (H : AH) : CallsA Try.prog 43 #[.int .i64 x, .int .i64 a, .int .i64 b] H fun r H' => r = .bool (inB x a b) ∧ H' = H := by
  refine w43 ?_
  unfold k43 inB
  simp -implicitDefEqProofs only [kz, kk0, kk1, kk2, kk3, ↓two_true, ↓two_false, oS_some, oM_some, mkv, aggAt, Nat.reduceLeDiff, Nat.reduceSub, Nat.reduceMul, implies_true, Nat.reduceEqDiff, reduceIte, Nat.reduceAdd, Nat.reduceBEq, reduceCtorEq]
  simp +contextual [two]
  omega
theorem within_eq {x a b : Int} {H : AH} {Φ : Value → AH → Prop} : CallsA Try.prog 43 #[.int .i64 x, .int .i64 a, .int .i64 b] H Φ = Φ (.bool (inB x a b)) H := (within_ok x a b H).eq0

set_option maxHeartbeats 4000000 in
theorem implNumOk_ok (x : Int) (H : AH) : CallsA Try.prog 37 #[.int .i64 x] H fun r H' => r = .bool (numOk x) ∧ H' = H := by
  refine w37 ?_
  unfold k37 numOk
  simp -implicitDefEqProofs only [kz, kk0, kk1, kk2, kk3, ↓two_true, ↓two_false, oS_some, oM_some, mkv, aggAt, Nat.reduceLeDiff, Nat.reduceSub, Nat.reduceMul, implies_true, Nat.reduceEqDiff, reduceIte, Nat.reduceAdd, Nat.reduceBEq, reduceCtorEq, within_eq]
theorem implNumOk_eq {x : Int} {H : AH} {Φ : Value → AH → Prop} : CallsA Try.prog 37 #[.int .i64 x] H Φ = Φ (.bool (numOk x)) H := (implNumOk_ok x H).eq0

def ints (l : List Int) : List Value := l.map (.int .i64)
theorem ints_get {l : List Int} {i : Nat} (h : i < l.length) : (ints l)[i]? = some (.int .i64 l[i]) := by simp [ints, h]
/-- A slice of ints that may be read. -/
def IntRow (H : AH) (v : Value) (l : List Int) : Prop :=
  (v = .slice none 0 0 ∧ l = []) ∨ ∃ b o cs, v = .slice (some ⟨b, o, none⟩) l.length 1 ∧ rd H b = some cs ∧ o + l.length ≤ cs.length ∧ (cs.drop o).take l.length = ints l
def toI : Value → Int | .int _ n => n | _ => 0
def rowI (H : AH) : Value → List Int
  | .slice (some ⟨b, o, _⟩) n _ => ((((rd H b).getD []).drop o).take n).map toI
  | _ => []
def OkI (H : AH) (v : Value) : Prop := IntRow H v (rowI H v)
theorem IntRow.row {H : AH} {v : Value} {l : List Int} (h : IntRow H v l) : rowI H v = l := by
  rcases h with ⟨rfl, rfl⟩ | ⟨b, o, cs, rfl, h1, _, h2⟩
  · rfl
  · simp only [rowI, h1, Option.getD_some, h2, ints, List.map_map]
    have : (toI ∘ Value.int IntKind.i64) = id := by funext n; rfl
    rw [this, List.map_id]
theorem IntRow.ok {H : AH} {v : Value} {l : List Int} (h : IntRow H v l) : OkI H v := by
  unfold OkI; rw [h.row]; exact h
theorem IntRow.same {H H' : AH} {v : Value} {l : List Int} (h : IntRow H v l) (hs : ∀ b o n c, v = .slice (some ⟨b, o, none⟩) n c → rd H' b = rd H b) : IntRow H' v l := by
  rcases h with h | ⟨b, o, cs, h1, h2, h3, h4⟩
  · exact .inl h
  · exact .inr ⟨b, o, cs, h1, by rw [hs _ _ _ _ h1]; exact h2, h3, h4⟩
theorem IntRow.mono {H L : AH} {v : Value} {l : List Int} (h : IntRow H v l) : IntRow (H ++ L) v l := by
  rcases h with h | ⟨b, o, cs, h1, h2, h3, h4⟩
  · exact .inl h
  · exact .inr ⟨b, o, cs, h1, by rw [rdl (by simp [h2]), h2], h3, h4⟩
theorem OkI.mono {H L : AH} {v : Value} (h : OkI H v) : OkI (H ++ L) v := (IntRow.mono h).ok
theorem rowI_mono {H L : AH} {v : Value} (h : OkI H v) : rowI (H ++ L) v = rowI H v := (IntRow.mono h).row
theorem IntRow.op {H : AH} {v : Value} {l : List Int} (h : IntRow H v l) : ∃ a c, v = .slice a l.length c ∧ (0 < l.length → ∃ b o cs, a = some ⟨b, o, none⟩ ∧ c = 1 ∧ rd H b = some cs ∧ o + l.length ≤ cs.length ∧ ∀ i (hi : i < l.length), cs[o + i]? = some (.int .i64 l[i])) := by
  rcases h with ⟨rfl, rfl⟩ | ⟨b, o, cs, rfl, h1, h2, h3⟩
  · exact ⟨none, 0, rfl, fun h => by simp at h⟩
  · refine ⟨_, _, rfl, fun _ => ⟨b, o, cs, rfl, rfl, h1, h2, fun i hi => ?_⟩⟩
    have := ints_get hi
    rw [← h3, List.getElem?_take_of_lt hi, List.getElem?_drop] at this
    exact this
theorem OkI.nil {H : AH} : OkI H (.slice none 0 0) := .inl ⟨rfl, rfl⟩
def OwnRow (H : AH) (v : Value) (l : List Int) : Prop :=
  (v = .slice none 0 0 ∧ l = []) ∨ ∃ b o cs, v = .slice (some ⟨b, o, none⟩) l.length 1 ∧ H[b]? = some ⟨cs, .own⟩ ∧ o + l.length ≤ cs.length ∧ (cs.drop o).take l.length = ints l
theorem rd_own {H : AH} {b : Nat} {cs : List Value} (h : H[b]? = some ⟨cs, .own⟩) : rd H b = some cs := by simp [rd, h, rdB]
theorem wrt_own {H : AH} {b : Nat} {cs : List Value} (h : H[b]? = some ⟨cs, .own⟩) : wrt H b = some cs := by simp [wrt, h, wrB]
theorem OwnRow.int {H : AH} {v : Value} {l : List Int} (h : OwnRow H v l) : IntRow H v l := by
  rcases h with h | ⟨b, o, cs, h1, h2, h3, h4⟩
  · exact .inl h
  · exact .inr ⟨b, o, cs, h1, rd_own h2, h3, h4⟩
def mks (k : Int) (n : Nat) : List Int := (List.range n).map fun (i : Nat) => k + (i : Int)
theorem mks_len {k : Int} {n : Nat} : (mks k n).length = n := by simp [mks]
/-- The heap with other numbers in a row. -/
def putI (H : AH) (v : Value) (xs : List Int) : AH :=
  match v with
  | .slice (some ⟨b, o, _⟩) _ _ => H.set b ⟨splice ((wrt H b).getD []) o (ints xs), .own⟩
  | _ => H
def blkOf : Value → Option Nat
  | .slice (some ⟨b, _, _⟩) _ _ => some b
  | _ => none
theorem putI_len {H : AH} {v : Value} {xs : List Int} : (putI H v xs).length = H.length := by
  unfold putI; split <;> simp
theorem putI_get {H : AH} {v : Value} {xs : List Int} {b : Nat} (h : blkOf v ≠ some b) : (putI H v xs)[b]? = H[b]? := by
  unfold putI
  split
  · simp only [blkOf, ne_eq, Option.some.injEq] at h
    rw [List.getElem?_set_ne h]
  · rfl
theorem splice_take {xs cs : List Value} {o : Nat} (h : o + xs.length ≤ cs.length) : ((splice cs o xs).drop o).take xs.length = xs := by
  refine List.ext_getElem? fun i => ?_
  rcases Nat.lt_or_ge i xs.length with h1 | h1
  · rw [List.getElem?_take_of_lt h1, List.getElem?_drop, splice_get xs cs o (o + i) h, if_pos (by omega), Nat.add_sub_cancel_left]
  · rw [List.getElem?_eq_none (by simp; omega), List.getElem?_eq_none (by omega)]
theorem OwnRow.put {H : AH} {v : Value} {l xs : List Int} (h : OwnRow H v l) (hx : xs.length = l.length) : OwnRow (putI H v xs) v xs := by
  rcases h with ⟨rfl, rfl⟩ | ⟨b, o, cs, rfl, h2, h3, h4⟩
  · exact .inl ⟨rfl, by cases xs <;> simp_all⟩
  · refine .inr ⟨b, o, splice cs o (ints xs), by rw [hx], ?_, ?_, ?_⟩
    · have hlt := (List.getElem?_eq_some_iff.1 h2).1
      simp only [putI, wrt_own h2, Option.getD_some]
      rw [List.getElem?_set_self hlt]
    · rw [splice_length]; omega
    · have := splice_take (xs := ints xs) (cs := cs) (o := o) (by simp [ints]; omega)
      rw [show (ints xs).length = xs.length by simp [ints]] at this
      exact this
theorem OwnRow.other {H : AH} {v w : Value} {l xs : List Int} (h : OwnRow H v l) (hb : blkOf v = none ∨ blkOf w ≠ blkOf v) : OwnRow (putI H w xs) v l := by
  rcases h with h | ⟨b, o, cs, rfl, h2, h3, h4⟩
  · exact .inl h
  · refine .inr ⟨b, o, cs, rfl, ?_, h3, h4⟩
    rw [putI_get]
    · exact h2
    · rcases hb with hb | hb
      · simp [blkOf] at hb
      · simpa [blkOf] using hb
theorem OwnRow.mono {H L : AH} {v : Value} {l : List Int} (h : OwnRow H v l) : OwnRow (H ++ L) v l := by
  rcases h with h | ⟨b, o, cs, h1, h2, h3, h4⟩
  · exact .inl h
  · exact .inr ⟨b, o, cs, h1, gtl h2, h3, h4⟩
/-- A slice of elements of 's' cells each, that may be read. -/
def SRow (H : AH) (v : Value) (s : Nat) (xs : List (List Value)) : Prop :=
  (v = .slice none 0 0 ∧ xs = []) ∨ ∃ b o cs, v = .slice (some ⟨b, o, none⟩) xs.length s ∧ rd H b = some cs ∧ o + xs.length * s ≤ cs.length ∧ ∀ (i : Nat) x, xs[i]? = some x → x.length = s ∧ ∀ (j : Nat) y, x[j]? = some y → cs[o + i * s + j]? = some y
def SOwn (H : AH) (v : Value) (s : Nat) (xs : List (List Value)) : Prop :=
  (v = .slice none 0 0 ∧ xs = []) ∨ ∃ b o cs, v = .slice (some ⟨b, o, none⟩) xs.length s ∧ H[b]? = some ⟨cs, .own⟩ ∧ o + xs.length * s ≤ cs.length ∧ ∀ (i : Nat) x, xs[i]? = some x → x.length = s ∧ ∀ (j : Nat) y, x[j]? = some y → cs[o + i * s + j]? = some y
theorem SOwn.row {H : AH} {v : Value} {s : Nat} {xs : List (List Value)} (h : SOwn H v s xs) : SRow H v s xs := by
  rcases h with h | ⟨b, o, cs, h1, h2, h3, h4⟩
  · exact .inl h
  · exact .inr ⟨b, o, cs, h1, rd_own h2, h3, h4⟩
theorem SRow.same {H H' : AH} {v : Value} {s : Nat} {xs : List (List Value)} (h : SRow H v s xs) (hs : ∀ b, blkOf v = some b → rd H' b = rd H b) : SRow H' v s xs := by
  rcases h with h | ⟨b, o, cs, h1, h2, h3, h4⟩
  · exact .inl h
  · exact .inr ⟨b, o, cs, h1, by rw [hs b (by rw [h1]; rfl)]; exact h2, h3, h4⟩
theorem SRow.mono {H L : AH} {v : Value} {s : Nat} {xs : List (List Value)} (h : SRow H v s xs) : SRow (H ++ L) v s xs := by
  rcases h with h | ⟨b, o, cs, h1, h2, h3, h4⟩
  · exact .inl h
  · exact .inr ⟨b, o, cs, h1, by rw [rdl (by simp [h2]), h2], h3, h4⟩
theorem SOwn.mono {H L : AH} {v : Value} {s : Nat} {xs : List (List Value)} (h : SOwn H v s xs) : SOwn (H ++ L) v s xs := by
  rcases h with h | ⟨b, o, cs, h1, h2, h3, h4⟩
  · exact .inl h
  · exact .inr ⟨b, o, cs, h1, gtl h2, h3, h4⟩
theorem SOwn.same {H H' : AH} {v : Value} {s : Nat} {xs : List (List Value)} (h : SOwn H v s xs) (hs : ∀ b, blkOf v = some b → H'[b]? = H[b]?) : SOwn H' v s xs := by
  rcases h with h | ⟨b, o, cs, h1, h2, h3, h4⟩
  · exact .inl h
  · exact .inr ⟨b, o, cs, h1, by rw [hs b (by rw [h1]; rfl)]; exact h2, h3, h4⟩
theorem row_idx {s i j i' j' : Nat} (h1 : j < s) (h2 : j' < s) (h : i * s + j = i' * s + j') : i = i' ∧ j = j' := by
  have hs : 0 < s := by omega
  have e1 : (i * s + j) / s = i := by rw [Nat.mul_comm, Nat.mul_add_div hs, Nat.div_eq_of_lt h1, Nat.add_zero]
  have e2 : (i' * s + j') / s = i' := by rw [Nat.mul_comm, Nat.mul_add_div hs, Nat.div_eq_of_lt h2, Nat.add_zero]
  have : i = i' := by rw [← e1, ← e2, h]
  subst this
  exact ⟨rfl, by omega⟩
theorem row_lt {s i n : Nat} (h : i < n) : i * s + s ≤ n * s := by
  have : (i + 1) * s ≤ n * s := Nat.mul_le_mul_right s h
  rw [Nat.add_mul, Nat.one_mul] at this
  exact this
theorem SRow.op {H : AH} {v : Value} {s : Nat} {xs : List (List Value)} (h : SRow H v s xs) : ∃ a c, v = .slice a xs.length c ∧ (0 < xs.length → ∃ b o cs, a = some ⟨b, o, none⟩ ∧ c = s ∧ rd H b = some cs ∧ o + xs.length * s ≤ cs.length ∧ ∀ (i : Nat) x, xs[i]? = some x → x.length = s ∧ ∀ (j : Nat) y, x[j]? = some y → cs[o + i * s + j]? = some y) := by
  rcases h with ⟨rfl, rfl⟩ | ⟨b, o, cs, rfl, h1, h2, h3⟩
  · exact ⟨none, 0, rfl, fun h => by simp at h⟩
  · exact ⟨_, _, rfl, fun _ => ⟨b, o, cs, rfl, rfl, h1, h2, h3⟩⟩
/-- A whole element. -/
theorem aggAt_row {cs x : List Value} {o s : Nat} (hx : x.length = s) (hlen : o + s ≤ cs.length) (h : ∀ (j : Nat) y, x[j]? = some y → cs[o + j]? = some y) : aggAt s o cs = some (.agg x.toArray) := by
  unfold aggAt
  rw [if_pos hlen]
  have : (cs.drop o).take s = x := by
    refine List.ext_getElem? fun j => ?_
    rcases Nat.lt_or_ge j s with h1 | h1
    · rw [List.getElem?_take_of_lt h1, List.getElem?_drop, h j _ (List.getElem?_eq_getElem (by omega))]
      exact (List.getElem?_eq_getElem (by omega)).symm
    · rw [List.getElem?_eq_none (by simp; omega), List.getElem?_eq_none (by omega)]
  rw [this]
/-- A cell of an element is written. -/
theorem SOwn.set {H : AH} {b o s : Nat} {cs : List Value} {xs : List (List Value)} {i j : Nat} {x : List Value} {y : Value} (hb : H[b]? = some ⟨cs, .own⟩) (hlen : o + xs.length * s ≤ cs.length)
    (hc : ∀ (i : Nat) x, xs[i]? = some x → x.length = s ∧ ∀ (j : Nat) y, x[j]? = some y → cs[o + i * s + j]? = some y) (hx : xs[i]? = some x) (hj : j < s) :
    SOwn (H.set b ⟨cs.set (o + i * s + j) y, .own⟩) (.slice (some ⟨b, o, none⟩) xs.length s) s (xs.set i (x.set j y)) := by
  have hbl : b < H.length := (List.getElem?_eq_some_iff.1 hb).1
  have hil : i < xs.length := (List.getElem?_eq_some_iff.1 hx).1
  refine .inr ⟨b, o, _, by simp, List.getElem?_set_self hbl, by simpa using hlen, ?_⟩
  intro i' x' hx'
  rw [List.getElem?_set] at hx'
  by_cases e : i = i'
  · subst e
    rw [if_pos rfl, if_pos hil] at hx'
    cases hx'
    have h0 := hc i x hx
    refine ⟨by simpa using h0.1, fun j' y' hy => ?_⟩
    rw [List.getElem?_set] at hy ⊢
    by_cases e2 : j = j'
    · subst e2
      rw [if_pos rfl, if_pos (by omega)] at hy
      cases hy
      have := row_lt (s := s) hil
      rw [if_pos rfl, if_pos (by omega)]
    · rw [if_neg e2] at hy
      rw [if_neg (by omega)]
      exact h0.2 j' y' hy
  · rw [if_neg e] at hx'
    have h0 := hc i' x' hx'
    refine ⟨h0.1, fun j' y' hy => ?_⟩
    have hj' : j' < s := by rw [← h0.1]; exact (List.getElem?_eq_some_iff.1 hy).1
    rw [List.getElem?_set, if_neg (fun h => e (row_idx hj hj' (by omega)).1)]
    exact h0.2 j' y' hy
/-- Vars, as cells: each letter's flag and its array's two rows. -/
abbrev VR3 := Bool × Value × Value
def vcells (x : VR3) : List Value := [.bool x.1, x.2.1, x.2.2]
def OkV (H : AH) (x : VR3) : Prop := OkI H x.2.1 ∧ OkI H x.2.2 ∧ (rowI H x.2.1).length < 4611686018427387904 ∧ (rowI H x.2.2).length < 4611686018427387904
theorem OkV.mono {H L : AH} {x : VR3} (h : OkV H x) : OkV (H ++ L) x := ⟨h.1.mono, h.2.1.mono, by rw [rowI_mono h.1]; exact h.2.2.1, by rw [rowI_mono h.2.1]; exact h.2.2.2⟩
/-- What a letter is. -/
def vval (H : AH) (x : VR3) : Bool × List Int × List Int := (x.1, rowI H x.2.1, rowI H x.2.2)
def Dj (v w : Value) : Prop := ∀ b, blkOf v = some b → blkOf w ≠ some b
theorem Dj.symm {v w : Value} (h : Dj v w) : Dj w v := fun b h1 h2 => h b h2 h1
theorem OwnRow.same {H H' : AH} {v : Value} {l : List Int} (h : OwnRow H v l) (hs : ∀ b, blkOf v = some b → H'[b]? = H[b]?) : OwnRow H' v l := by
  rcases h with h | ⟨b, o, cs, h1, h2, h3, h4⟩
  · exact .inl h
  · exact .inr ⟨b, o, cs, h1, by rw [hs b (by rw [h1]; rfl)]; exact h2, h3, h4⟩
theorem OwnRow.rowI {H : AH} {v : Value} {l : List Int} (h : OwnRow H v l) : rowI H v = l := h.int.row
theorem putI_dj {H : AH} {v w : Value} {l : List Int} (h : Dj v w) : ∀ b, blkOf w = some b → (putI H v l)[b]? = H[b]? := fun b hb => putI_get fun h2 => h b h2 hb
theorem OwnRow.isSlice {H : AH} {v : Value} {l : List Int} (h : OwnRow H v l) : ∃ a c, v = .slice a l.length c := by
  obtain ⟨a, c, h1, _⟩ := h.int.op
  exact ⟨a, c, h1⟩
inductive CV where
  | i (n : Int)
  | b (x : Bool)
  | r (l : List Int)
  deriving DecidableEq
inductive CK where
  | i
  | b
  | r
  | w
def cv (H : AH) : Value → CV
  | .int _ n => .i n
  | .bool x => .b x
  | v => .r (rowI H v)
theorem cv_int {H : AH} {k : IntKind} {n : Int} : cv H (.int k n) = .i n := rfl
def KOk (H : AH) : CK → Value → Prop
  | .i, y => ∃ n, y = .int .i64 n
  | .b, y => ∃ x, y = .bool x
  | .r, y => OkI H y ∧ (rowI H y).length < 1073741825
  | .w, y => OkI H y ∧ (rowI H y).length ≤ 9223372036854775807
def All2 (H : AH) : List CK → List Value → Prop
  | [], x => x = []
  | k :: ks, x => ∃ y r, x = y :: r ∧ KOk H k y ∧ All2 H ks r
theorem OkI.slice {H : AH} {y : Value} (h : OkI H y) : ∃ a c, y = .slice a (rowI H y).length c := by
  obtain ⟨a, c, e, _⟩ := IntRow.op h
  exact ⟨a, c, e⟩
theorem cv_row {H : AH} {y : Value} (h : OkI H y) : cv H y = .r (rowI H y) := by
  obtain ⟨a, c, e⟩ := h.slice
  rw [e]; rfl
theorem rowI_same {H H' : AH} {v : Value} (hs : ∀ b, blkOf v = some b → rd H' b = rd H b) : rowI H' v = rowI H v := by
  unfold rowI
  split
  · rename_i b o a n c
    rw [hs b rfl]
  · rfl
theorem OkI.same {H H' : AH} {v : Value} (h : OkI H v) (hs : ∀ b, blkOf v = some b → rd H' b = rd H b) : OkI H' v := (IntRow.same h fun b o n c e => hs b (by rw [e]; rfl)).ok
theorem cv_same {H H' : AH} {v : Value} (hs : ∀ b, blkOf v = some b → rd H' b = rd H b) : cv H' v = cv H v := by
  unfold cv
  split
  · rfl
  · rfl
  · rw [rowI_same hs]
theorem KOk.same {H H' : AH} {k : CK} {v : Value} (h : KOk H k v) (hs : ∀ b, blkOf v = some b → rd H' b = rd H b) : KOk H' k v := by
  cases k with
  | i => exact h
  | b => exact h
  | r => exact ⟨h.1.same hs, by rw [rowI_same hs]; exact h.2⟩
  | w => exact ⟨h.1.same hs, by rw [rowI_same hs]; exact h.2⟩
theorem KOk.rdable {H : AH} {k : CK} {v : Value} (h : KOk H k v) : ∀ b, blkOf v = some b → (rd H b).isSome = true := by
  intro b hb
  cases k with
  | i => obtain ⟨n, rfl⟩ := h; simp [blkOf] at hb
  | b => obtain ⟨n, rfl⟩ := h; simp [blkOf] at hb
  | r =>
    rcases h.1 with ⟨e, _⟩ | ⟨b', o, cs, e, h2, _⟩
    · rw [e] at hb; simp [blkOf] at hb
    · rw [e] at hb; simp [blkOf] at hb; subst hb; simp [h2]
  | w =>
    rcases h.1 with ⟨e, _⟩ | ⟨b', o, cs, e, h2, _⟩
    · rw [e] at hb; simp [blkOf] at hb
    · rw [e] at hb; simp [blkOf] at hb; subst hb; simp [h2]
theorem KOk.mono {H L : AH} {k : CK} {v : Value} (h : KOk H k v) : KOk (H ++ L) k v := h.same fun b hb => rdl (h.rdable b hb)
theorem cv_mono {H L : AH} {k : CK} {v : Value} (h : KOk H k v) : cv (H ++ L) v = cv H v := cv_same fun b hb => rdl (h.rdable b hb)
theorem All2.len {H : AH} : ∀ {ks : List CK} {x : List Value}, All2 H ks x → x.length = ks.length
  | [], x, h => by cases h; rfl
  | k :: ks, x, ⟨y, r, e, _, h⟩ => by rw [e, List.length_cons, h.len, List.length_cons]
theorem All2.get {H : AH} : ∀ {ks : List CK} {x : List Value}, All2 H ks x → ∀ (c : Nat) k y, ks[c]? = some k → x[c]? = some y → KOk H k y
  | [], x, h, c, k, y, hk, _ => by simp at hk
  | k :: ks, x, ⟨y, r, e, h1, h⟩, 0, k', y', hk, hy => by
    subst e; simp at hk hy; subst hk; subst hy; exact h1
  | k :: ks, x, ⟨y, r, e, h1, h⟩, c + 1, k', y', hk, hy => by
    subst e; simp at hk hy; exact h.get c k' y' hk hy
theorem All2.of {H : AH} : ∀ {ks : List CK} {x : List Value}, x.length = ks.length → (∀ (c : Nat) k y, ks[c]? = some k → x[c]? = some y → KOk H k y) → All2 H ks x
  | [], x, hl, _ => by
    cases x with
    | nil => rfl
    | cons y r => simp at hl
  | k :: ks, x, hl, h => by
    cases x with
    | nil => simp at hl
    | cons y r => exact ⟨y, r, rfl, h 0 k y rfl rfl, All2.of (by simpa using hl) fun c k' y' hk hy => h (c + 1) k' y' (by simpa using hk) (by simpa using hy)⟩
theorem All2.mono {H L : AH} {ks : List CK} {x : List Value} (h : All2 H ks x) : All2 (H ++ L) ks x := All2.of h.len fun c k y hk hy => (h.get c k y hk hy).mono
theorem All2.mapcv {H L : AH} {ks : List CK} {x : List Value} (h : All2 H ks x) : x.map (cv (H ++ L)) = x.map (cv H) := by
  refine List.map_congr_left fun y hy => ?_
  obtain ⟨c, hc, e⟩ := List.mem_iff_getElem.1 hy
  have hl := h.len
  exact cv_mono (h.get c ks[c] y (List.getElem?_eq_getElem (by omega)) (by rw [List.getElem?_eq_getElem hc, e]))
def cvs (H : AH) (xs : List Value) : List CV := xs.map (cv H)
/-- A slice of 'n' elements with cells of the kinds 'ks' each, that may be read; its cells are 'xs'. -/
structure FRow (H : AH) (v : Value) (ks : List CK) (n : Nat) (xs : List Value) : Prop where
  len : xs.length = n * ks.length
  row : (v = .slice none 0 0 ∧ n = 0) ∨ ∃ b o cs, v = .slice (some ⟨b, o, none⟩) n ks.length ∧ rd H b = some cs ∧ o + n * ks.length ≤ cs.length ∧ ∀ (j : Nat) y, xs[j]? = some y → cs[o + j]? = some y
  ok : ∀ (i c : Nat) k y, i < n → ks[c]? = some k → xs[i * ks.length + c]? = some y → KOk H k y
theorem FRow.cell {H : AH} {v : Value} {ks : List CK} {n : Nat} {xs : List Value} (h : FRow H v ks n xs) {j : Nat} {y : Value} (hy : xs[j]? = some y) : ∃ k, KOk H k y := by
  have hj := (List.getElem?_eq_some_iff.1 hy).1
  rw [h.len] at hj
  have hk : 0 < ks.length := by
    rcases Nat.eq_zero_or_pos ks.length with e | e
    · rw [e] at hj; omega
    · exact e
  have h1 : j / ks.length < n := Nat.div_lt_of_lt_mul (by rw [Nat.mul_comm]; exact hj)
  have h2 : j % ks.length < ks.length := Nat.mod_lt _ hk
  refine ⟨_, h.ok (j / ks.length) (j % ks.length) _ y h1 (List.getElem?_eq_getElem h2) ?_⟩
  rw [Nat.mul_comm, Nat.div_add_mod]; exact hy
theorem FRow.same {H H' : AH} {v : Value} {ks : List CK} {n : Nat} {xs : List Value} (h : FRow H v ks n xs) (hs : ∀ b, (blkOf v = some b ∨ ∃ y ∈ xs, blkOf y = some b) → rd H' b = rd H b) : FRow H' v ks n xs := by
  refine ⟨h.len, ?_, fun i c k y hi hk hy => (h.ok i c k y hi hk hy).same fun b hb => hs b (.inr ⟨y, List.mem_of_getElem? hy, hb⟩)⟩
  rcases h.row with h1 | ⟨b, o, cs, h1, h2, h3⟩
  · exact .inl h1
  · exact .inr ⟨b, o, cs, h1, by rw [hs b (.inl (by rw [h1]; rfl))]; exact h2, h3⟩
theorem FRow.cvs_same {H H' : AH} {xs : List Value} (hs : ∀ b, (∃ y ∈ xs, blkOf y = some b) → rd H' b = rd H b) : cvs H' xs = cvs H xs :=
  List.map_congr_left fun y hy => cv_same fun b hb => hs b ⟨y, hy, hb⟩
theorem FRow.rdable {H : AH} {v : Value} {ks : List CK} {n : Nat} {xs : List Value} (h : FRow H v ks n xs) : ∀ b, (blkOf v = some b ∨ ∃ y ∈ xs, blkOf y = some b) → (rd H b).isSome = true := by
  rintro b (hb | ⟨y, hy, hb⟩)
  · rcases h.row with ⟨h1, _⟩ | ⟨b', o, cs, h1, h2, h3⟩
    · rw [h1] at hb; simp [blkOf] at hb
    · rw [h1] at hb; simp [blkOf] at hb; subst hb; simp [h2]
  · obtain ⟨j, hj⟩ := List.mem_iff_getElem?.1 hy
    obtain ⟨k, hk⟩ := h.cell hj
    exact hk.rdable b hb
theorem FRow.mono {H L : AH} {v : Value} {ks : List CK} {n : Nat} {xs : List Value} (h : FRow H v ks n xs) : FRow (H ++ L) v ks n xs := h.same fun b hb => rdl (h.rdable b hb)
theorem FRow.vals {H L : AH} {v : Value} {ks : List CK} {n : Nat} {xs : List Value} (h : FRow H v ks n xs) : cvs (H ++ L) xs = cvs H xs := FRow.cvs_same fun b hb => rdl (h.rdable b (.inr hb))
/-- What an element is. -/
def elm (s : Nat) (xs : List Value) (i : Nat) : List Value := (xs.drop (i * s)).take s
theorem elm_get {s : Nat} {xs : List Value} {i c : Nat} (hc : c < s) : (elm s xs i)[c]? = xs[i * s + c]? := by
  unfold elm
  rw [List.getElem?_take_of_lt hc, List.getElem?_drop]
theorem FRow.elem {H : AH} {v : Value} {ks : List CK} {n : Nat} {xs : List Value} (h : FRow H v ks n xs) {i : Nat} (hi : i < n) : All2 H ks (elm ks.length xs i) := by
  have hl := h.len
  have hr := row_lt (s := ks.length) hi
  refine All2.of ?_ fun c k y hk hy => ?_
  · simp [elm]; omega
  · have hc := (List.getElem?_eq_some_iff.1 hk).1
    rw [elm_get hc] at hy
    exact h.ok i c k y hi hk hy
theorem FRow.op {H : AH} {v : Value} {ks : List CK} {n : Nat} {xs : List Value} (h : FRow H v ks n xs) : ∃ a c, v = .slice a n c ∧ (0 < n → ∃ b o cs, a = some ⟨b, o, none⟩ ∧ c = ks.length ∧ rd H b = some cs ∧ o + n * ks.length ≤ cs.length ∧
    ∀ i, i < n → aggAt ks.length (o + i * ks.length) cs = some (.agg (elm ks.length xs i).toArray) ∧ ∀ (c : Nat) y, (elm ks.length xs i)[c]? = some y → cs[o + i * ks.length + c]? = some y) := by
  have hl := h.len
  rcases h.row with ⟨rfl, rfl⟩ | ⟨b, o, cs, rfl, h1, h2, h3⟩
  · exact ⟨none, 0, rfl, fun h => by omega⟩
  · refine ⟨_, _, rfl, fun _ => ⟨b, o, cs, rfl, rfl, h1, h2, fun i hi => ?_⟩⟩
    have hr := row_lt (s := ks.length) hi
    have hc : ∀ (c : Nat) y, (elm ks.length xs i)[c]? = some y → cs[o + i * ks.length + c]? = some y := by
      intro c y hy
      have hlt : c < ks.length := by
        have := (List.getElem?_eq_some_iff.1 hy).1
        simp [elm] at this
        omega
      rw [elm_get hlt] at hy
      rw [Nat.add_assoc]
      exact h3 _ y hy
    refine ⟨aggAt_row (h.elem hi).len (by omega) hc, hc⟩
/-- A row whose cells own what they point to, each by itself. -/
def OwnC (H : AH) (y : Value) : Prop := (∃ n, y = .int .i64 n) ∨ (∃ x, y = .bool x) ∨ OwnRow H y (rowI H y)
structure OT (H : AH) (v : Value) (ks : List CK) (n : Nat) (xs : List Value) : Prop where
  len : xs.length = n * ks.length
  row : (v = .slice none 0 0 ∧ n = 0) ∨ ∃ b o cs, v = .slice (some ⟨b, o, none⟩) n ks.length ∧ H[b]? = some ⟨cs, .own⟩ ∧ o + n * ks.length ≤ cs.length ∧ ∀ (j : Nat) y, xs[j]? = some y → cs[o + j]? = some y
  ok : ∀ (i c : Nat) k y, i < n → ks[c]? = some k → xs[i * ks.length + c]? = some y → KOk H k y
  own : ∀ (j : Nat) y, xs[j]? = some y → OwnC H y
  out : ∀ (j : Nat) y, xs[j]? = some y → Dj v y
  dif : ∀ (i j : Nat) x y, i ≠ j → xs[i]? = some x → xs[j]? = some y → Dj x y
theorem OT.frow {H : AH} {v : Value} {ks : List CK} {n : Nat} {xs : List Value} (h : OT H v ks n xs) : FRow H v ks n xs := by
  refine ⟨h.len, ?_, h.ok⟩
  rcases h.row with h1 | ⟨b, o, cs, h1, h2, h3⟩
  · exact .inl h1
  · exact .inr ⟨b, o, cs, h1, rd_own h2, h3⟩
theorem get_rd {H H' : AH} {b : Nat} (h : H'[b]? = H[b]?) : rd H' b = rd H b := by unfold rd; rw [h]
theorem OwnC.same {H H' : AH} {y : Value} (h : OwnC H y) (hs : ∀ b, blkOf y = some b → H'[b]? = H[b]?) : OwnC H' y := by
  rcases h with h | h | h
  · exact .inl h
  · exact .inr (.inl h)
  · have := h.same hs
    exact .inr (.inr (by rw [this.rowI]; exact this))
theorem OT.same {H H' : AH} {v : Value} {ks : List CK} {n : Nat} {xs : List Value} (h : OT H v ks n xs) (hs : ∀ b, (blkOf v = some b ∨ ∃ y ∈ xs, blkOf y = some b) → H'[b]? = H[b]?) : OT H' v ks n xs := by
  refine ⟨h.len, ?_, (h.frow.same fun b hb => get_rd (hs b hb)).ok, fun j y hy => (h.own j y hy).same fun b hb => hs b (.inr ⟨y, List.mem_of_getElem? hy, hb⟩), h.out, h.dif⟩
  rcases h.row with h1 | ⟨b, o, cs, h1, h2, h3⟩
  · exact .inl h1
  · exact .inr ⟨b, o, cs, h1, by rw [hs b (.inl (by rw [h1]; rfl))]; exact h2, h3⟩
theorem OwnRow.lt {H : AH} {v : Value} {l : List Int} (h : OwnRow H v l) : ∀ b, blkOf v = some b → b < H.length := by
  rcases h with ⟨rfl, _⟩ | ⟨b, o, cs, rfl, h2, _⟩
  · intro b h; simp [blkOf] at h
  · intro b' h
    simp [blkOf] at h
    subst h
    exact (List.getElem?_eq_some_iff.1 h2).1
theorem OwnC.lt {H : AH} {y : Value} (h : OwnC H y) : ∀ b, blkOf y = some b → b < H.length := by
  rcases h with ⟨n, rfl⟩ | ⟨n, rfl⟩ | h
  · intro b h; simp [blkOf] at h
  · intro b h; simp [blkOf] at h
  · exact h.lt
theorem OT.lt {H : AH} {v : Value} {ks : List CK} {n : Nat} {xs : List Value} (h : OT H v ks n xs) : ∀ b, (blkOf v = some b ∨ ∃ y ∈ xs, blkOf y = some b) → b < H.length := by
  rintro b (hb | ⟨y, hy, hb⟩)
  · rcases h.row with ⟨h1, _⟩ | ⟨b', o, cs, h1, h2, h3⟩
    · rw [h1] at hb; simp [blkOf] at hb
    · rw [h1] at hb; simp [blkOf] at hb; subst hb; exact (List.getElem?_eq_some_iff.1 h2).1
  · obtain ⟨j, hj⟩ := List.mem_iff_getElem?.1 hy
    exact (h.own j y hj).lt b hb
theorem OT.mono {H L : AH} {v : Value} {ks : List CK} {n : Nat} {xs : List Value} (h : OT H v ks n xs) : OT (H ++ L) v ks n xs := h.same fun b hb => List.getElem?_append_left (h.lt b hb)
def cnt1 : CV → Nat | .i _ => 1 | .b _ => 1 | .r l => l.length
def mark1 : CV → Int → CV | .i _, k => .i k | .b _, k => .b (k % 3 == 0) | .r l, k => .r (mks k l.length)
def markF : List CV → Int → List CV
  | [], _ => []
  | x :: r, k => mark1 x k :: markF r (k + cnt1 x)
def cntF (l : List CV) : Nat := (l.map cnt1).sum
theorem markF_append : ∀ (l m : List CV) (k : Int), markF (l ++ m) k = markF l k ++ markF m (k + cntF l)
  | [], m, k => by simp [markF, cntF]
  | x :: l, m, k => by
    simp only [List.cons_append, markF, markF_append l m]
    rw [show k + (cnt1 x : Int) + cntF l = k + cntF (x :: l) by simp only [cntF, List.map_cons, List.sum_cons]; omega]
theorem cntF_append {l m : List CV} : cntF (l ++ m) = cntF l + cntF m := by simp [cntF]
theorem markF_len : ∀ (l : List CV) (k : Int), (markF l k).length = l.length
  | [], _ => rfl
  | x :: l, k => by simp [markF, markF_len l]
structure MC (H : AH) (v : Value) (ks : List CK) (n : Nat) (xs : List Value) (k : Int) (p : Nat) (q : Int) (ys : List Value) (H' : AH) : Prop where
  ot : OT H' v ks n ys
  blk : ys.map blkOf = xs.map blkOf
  len : H'.length = H.length
  frame : ∀ b, ¬ (blkOf v = some b ∨ ∃ y ∈ xs, blkOf y = some b) → H'[b]? = H[b]?
  vals : cvs H' ys = markF ((cvs H xs).take p) k ++ (cvs H xs).drop p
  cnt : q = k + cntF ((cvs H xs).take p)
theorem MC.bk {H H' : AH} {v : Value} {ks : List CK} {n p : Nat} {xs ys : List Value} {k q : Int} (h : MC H v ks n xs k p q ys H') {b : Nat} : (∃ y ∈ ys, blkOf y = some b) ↔ ∃ y ∈ xs, blkOf y = some b := by
  have e : ∀ zs : List Value, (∃ y ∈ zs, blkOf y = some b) ↔ some b ∈ zs.map blkOf := by
    intro zs; simp only [List.mem_map]
  rw [e, e, h.blk]
theorem MC.rest {H H' : AH} {v : Value} {ks : List CK} {n p : Nat} {xs ys : List Value} {k q : Int} (h : MC H v ks n xs k p q ys H') {y : Value} (hy : ys[p]? = some y) : (cvs H xs)[p]? = some (cv H' y) := by
  have h1 := congrArg (fun l : List CV => l[p]?) h.vals
  have hl : ys.length = xs.length := by have := congrArg List.length h.blk; simpa using this
  have hp := (List.getElem?_eq_some_iff.1 hy).1
  have e : (markF ((cvs H xs).take p) k).length = p := by rw [markF_len]; simp [cvs]; omega
  simp only [List.getElem?_append_right (Nat.le_of_eq e), e, Nat.sub_self, List.getElem?_drop, Nat.add_zero] at h1
  rw [← h1]
  simp [cvs, hy]
theorem MC.take {H H' : AH} {v : Value} {ks : List CK} {n p : Nat} {xs ys : List Value} {k q : Int} (h : MC H v ks n xs k p q ys H') {y : Value} (hy : ys[p]? = some y) :
    (cvs H xs).take (p + 1) = (cvs H xs).take p ++ [cv H' y] ∧ (cvs H xs).drop p = cv H' y :: (cvs H xs).drop (p + 1) := by
  have h1 := h.rest hy
  obtain ⟨h2, h3⟩ := List.getElem?_eq_some_iff.1 h1
  rw [← h3]
  exact ⟨List.take_succ_eq_append_getElem h2, List.drop_eq_getElem_cons h2⟩
/-- A cell that is a row of ints is written. -/
theorem MC.ints {H H' : AH} {v : Value} {ks : List CK} {n p : Nat} {xs ys : List Value} {k q : Int} (h : MC H v ks n xs k p q ys H') {y : Value} (hy : ys[p]? = some y) (ho : OwnRow H' y (rowI H' y)) (hok : OkI H' y) :
    MC H v ks n xs k (p + 1) (q + (rowI H' y).length) ys (putI H' y (mks q (rowI H' y).length)) := by
  have hp := (List.getElem?_eq_some_iff.1 hy).1
  have hput := ho.put (xs := mks q (rowI H' y).length) mks_len
  have hsy : ∀ (j : Nat) w, j ≠ p → ys[j]? = some w → ∀ g, blkOf w = some g → (putI H' y (mks q (rowI H' y).length))[g]? = H'[g]? := fun j w hj hw => putI_dj (h.ot.dif p j y w (Ne.symm hj) hy hw)
  refine ⟨⟨h.ot.len, ?_, ?_, ?_, h.ot.out, h.ot.dif⟩, h.blk, by rw [putI_len, h.len], ?_, ?_, ?_⟩
  · rcases h.ot.row with h1 | ⟨b, o, cs, h1, h2, h3⟩
    · exact .inl h1
    · refine .inr ⟨b, o, cs, h1, ?_, h3⟩
      rw [putI_get (h.ot.out p y hy b (by rw [h1]; rfl))]
      exact h2
  · intro i c k' w hi hk hw
    have hold := h.ot.ok i c k' w hi hk hw
    by_cases e : i * ks.length + c = p
    · rw [e, hy] at hw
      cases hw
      cases k' with
      | i => obtain ⟨m, rfl⟩ := hold; obtain ⟨a, c, e⟩ := hok.slice; cases e
      | b => obtain ⟨m, rfl⟩ := hold; obtain ⟨a, c, e⟩ := hok.slice; cases e
      | r => exact ⟨hput.int.ok, by rw [hput.rowI, mks_len]; exact hold.2⟩
      | w => exact ⟨hput.int.ok, by rw [hput.rowI, mks_len]; exact hold.2⟩
    · exact hold.same fun g hg => get_rd (hsy _ w e hw g hg)
  · intro j w hw
    by_cases e : j = p
    · subst e
      rw [hy] at hw; cases hw
      exact .inr (.inr (by rw [hput.rowI]; exact hput))
    · exact (h.ot.own j w hw).same (hsy j w e hw)
  · intro g hg
    rw [putI_get, h.frame g hg]
    intro e
    exact hg (.inr (h.bk.1 ⟨y, List.mem_of_getElem? hy, e⟩))
  · obtain ⟨e1, e2⟩ := h.take hy
    have e3 : cvs (putI H' y (mks q (rowI H' y).length)) ys = (cvs H' ys).set p (.r (mks q (rowI H' y).length)) := by
      refine List.ext_getElem? fun j => ?_
      simp only [cvs, List.getElem?_map, List.getElem?_set, List.length_map]
      split
      · rename_i e
        subst e
        rw [hy, Option.map_some, cv_row hput.int.ok, hput.rowI]
      · rename_i e
        cases hj : ys[j]? with
        | none => rfl
        | some w => simp only [Option.map_some, cv_same fun g hg => get_rd (hsy j w (Ne.symm e) hj g hg)]
    have e4 : (markF ((cvs H xs).take p) k).length = p := by
      rw [markF_len]
      have := congrArg List.length h.blk
      simp [cvs] at this ⊢
      omega
    rw [e3, h.vals, e1, markF_append, List.set_append_right _ _ (by omega), e4, Nat.sub_self, e2, List.set_cons_zero, List.append_assoc]
    congr 1
    rw [cv_row hok]
    have hcn := h.cnt
    simp only [markF, mark1, List.singleton_append, List.cons.injEq, and_true, ← hcn]
  · obtain ⟨e1, e2⟩ := h.take hy
    rw [e1, cntF_append, h.cnt, cv_row hok]
    simp only [cntF, List.map_cons, List.map_nil, List.sum_cons, List.sum_nil, cnt1]; omega

theorem ext_of {H H' : AH} (hl : H.length ≤ H'.length) (hk : ∀ b, b < H.length → H'[b]? = H[b]?) : ∃ K, H' = H ++ K := by
  refine ⟨H'.drop H.length, List.ext_getElem? fun b => ?_⟩
  rcases Nat.lt_or_ge b H.length with h | h
  · rw [List.getElem?_append_left h, hk b h]
  · rw [List.getElem?_append_right h, List.getElem?_drop, Nat.add_sub_cancel' h]
/-- What append leaves of the heap. -/
structure App (H : AH) (v : Value) (H' : AH) (v' : Value) : Prop where
  len : H.length ≤ H'.length
  keep : ∀ b, b < H.length → blkOf v ≠ some b → H'[b]? = H[b]?
  new : ∀ b, blkOf v' = some b → blkOf v = some b ∨ H.length ≤ b
theorem App.ext {H0 H H' : AH} {v v' : Value} (h : App H v H' v') (h0 : ∃ K, H = H0 ++ K) (hv : ∀ b, blkOf v = some b → H0.length ≤ b) : ∃ K, H' = H0 ++ K := by
  obtain ⟨K, rfl⟩ := h0
  have hl := h.len
  rw [List.length_append] at hl
  refine ext_of (by omega) fun b hb => ?_
  rw [h.keep b (by rw [List.length_append]; omega) (fun e => by have := hv b e; omega), List.getElem?_append_left hb]
theorem IntRow.cl {H : AH} {v : Value} {l : List Int} (h : IntRow H v l) : cl H 1 v = some (ints l) ∧ lenS v = l.length := by
  rcases h with ⟨rfl, rfl⟩ | ⟨b, o, cs, rfl, h1, h2, h3⟩
  · exact ⟨rfl, rfl⟩
  · refine ⟨?_, rfl⟩
    simp only [Go.Proofs.Ytpclegiocblpmaa.AM.cl, h1, Option.bind_some, Nat.mul_one, if_pos h2, h3]
theorem OwnRow.ownOk {H : AH} {v : Value} {l : List Int} (h : OwnRow H v l) : Go.Proofs.Ytpclegiocblpmaa.AM.ownOk v 1 H = true := by
  rcases h with ⟨rfl, rfl⟩ | ⟨b, o, cs, rfl, h1, h2, h3⟩
  · rfl
  · simp [Go.Proofs.Ytpclegiocblpmaa.AM.ownOk, h1]
theorem ints_leaf {l : List Int} : (ints l).all leaf = true := by
  simp [ints, leaf]
theorem ints_app {l m : List Int} : ints l ++ ints m = ints (l ++ m) := by simp [ints]
theorem kill_keep {H : AH} {v : Value} {b : Nat} (h : blkOf v ≠ some b) : (kill v H)[b]? = H[b]? := by
  unfold kill
  split
  · rename_i a n c
    rw [List.getElem?_set_ne]
    intro e
    apply h
    rw [← e]
    rfl
  · rfl
theorem kill_len2 {H : AH} {v : Value} : (kill v H).length = H.length := by unfold kill; split <;> simp
theorem oA_own {H : AH} {v w : Value} {l m : List Int} {Φ : Value → AH → Prop} (hv : OwnRow H v l) (hw : IntRow H w m) (hl : l.length + m.length ≤ 1073741824)
    (h : ∀ a c H', OwnRow H' (.slice a (l.length + m.length) c) (l ++ m) → App H v H' (.slice a (l.length + m.length) c) → Φ (.slice a (l.length + m.length) c) H') : oA (app 1 v w H) Φ := by
  obtain ⟨c1, c2⟩ := hv.int.cl
  obtain ⟨c3, c4⟩ := hw.cl
  unfold app
  rw [c1, c3]
  simp only [c2, c4]
  by_cases hm : m.length = 0
  · rw [if_pos hm]
    have : m = [] := List.eq_nil_of_length_eq_zero hm
    subst this
    obtain ⟨a, c, e⟩ := (show ∃ a c, v = .slice a l.length c by obtain ⟨a, c, h1, _⟩ := hv.int.op; exact ⟨a, c, h1⟩)
    subst e
    have := h a c H (by simpa using hv) ⟨Nat.le_refl _, fun b _ _ => rfl, fun b hb => .inl hb⟩
    simpa [oA] using this
  · rw [if_neg hm, if_pos ⟨hl, ints_leaf, hv.ownOk⟩]
    refine h _ _ _ ?_ ⟨by simp [kill_len2], fun b hb hn => ?_, fun b hb => .inr ?_⟩
    · refine .inr ⟨H.length, 0, ints l ++ ints m, by rw [List.length_append], ?_, ?_, ?_⟩
      · rw [← kill_len2 (v := v), gt0]; rfl
      · simp [ints]
      · rw [List.drop_zero, List.take_of_length_le (by simp [ints]), ints_app]
    · rw [List.getElem?_append_left (by rw [kill_len2]; exact hb), kill_keep hn]
    · simp [blkOf] at hb; omega
theorem OwnRow.nil {H : AH} : OwnRow H (.slice none 0 0) [] := .inl ⟨rfl, rfl⟩
theorem IntRow.ext {H H' : AH} {w : Value} {m : List Int} (h : IntRow H w m) (he : ∃ K, H' = H ++ K) : IntRow H' w m := by
  obtain ⟨K, rfl⟩ := he; exact h.mono
theorem App.own {H H' : AH} {v v' w : Value} {m : List Int} (h : App H v H' v') (hw : OwnRow H w m) (hd : ∀ b, blkOf w = some b → blkOf v ≠ some b) : OwnRow H' w m :=
  hw.same fun b hb => h.keep b (hw.lt b hb) (hd b hb)
theorem App.at {H H' : AH} {v v' : Value} {b : Nat} {k : Blk} (h : App H v H' v') (hb : H[b]? = some k) (hd : blkOf v ≠ some b) : H'[b]? = some k := by
  rw [h.keep b (List.getElem?_eq_some_iff.1 hb).1 hd, hb]
theorem set_at {H : AH} {b : Nat} {k k' : Blk} (h : H[b]? = some k) : (H.set b k')[b]? = some k' := List.getElem?_set_self (List.getElem?_eq_some_iff.1 h).1
theorem set_ext {H H' : AH} {b : Nat} {k : Blk} (h : ∃ K, H' = H ++ K) (hb : H.length ≤ b) : ∃ K, H'.set b k = H ++ K := by
  obtain ⟨K, rfl⟩ := h
  exact ⟨K.set (b - H.length) k, by rw [List.set_append_right _ _ hb]⟩
theorem app_ext {H H' L : AH} (h : ∃ K, H' = H ++ K) : ∃ K, H' ++ L = H ++ K := by
  obtain ⟨K, rfl⟩ := h
  exact ⟨K ++ L, by simp⟩
theorem ext_trans {H H1 H2 : AH} (h1 : ∃ K, H1 = H ++ K) (h2 : ∃ K, H2 = H1 ++ K) : ∃ K, H2 = H ++ K := by
  obtain ⟨K, rfl⟩ := h1; obtain ⟨L, rfl⟩ := h2; exact ⟨K ++ L, by simp⟩
theorem ext_len {H H' : AH} (h : ∃ K, H' = H ++ K) : H.length ≤ H'.length := by
  obtain ⟨K, rfl⟩ := h; simp
theorem OwnRow.set {H : AH} {v : Value} {l : List Int} {b : Nat} {k : Blk} (h : OwnRow H v l) (hb : blkOf v ≠ some b) : OwnRow (H.set b k) v l :=
  h.same fun g hg => List.getElem?_set_ne (fun e => hb (by rw [e]; exact hg))
/-- An array whose rows are its own. -/
structure AOwn (H0 H : AH) (v : Value) (sh dt : List Int) (p q : Value) : Prop where
  eq : v = .agg #[p, q]
  sh : OwnRow H p sh
  dt : OwnRow H q dt
  dj : Dj p q
  n1 : ∀ b, blkOf p = some b → H0.length ≤ b
  n2 : ∀ b, blkOf q = some b → H0.length ≤ b

set_option maxHeartbeats 4000000 in
theorem copyArray_ok {H : AH} {p q : Value} {sh dt : List Int} (hp : IntRow H p sh) (hq : IntRow H q dt) (l1 : sh.length ≤ 1073741824) (l2 : dt.length ≤ 1073741824) :
    CallsA Try.prog 29 #[.agg #[p, q]] H fun r H' => (∃ p' q', AOwn H H' r sh dt p' q') ∧ ∃ K, H' = H ++ K := by
  refine w29 ?_
  unfold k29
  obtain ⟨a1, c1, rfl, _⟩ := hp.op
  obtain ⟨a2, c2, rfl, _⟩ := hq.op
  simp -implicitDefEqProofs only [kz, kk0, kk1, kk2, kk3, ↓two_true, ↓two_false, oS_some, oM_some, mkv, aggAt, Nat.reduceLeDiff, Nat.reduceSub, Nat.reduceMul, implies_true, Nat.reduceEqDiff, reduceIte, Nat.reduceAdd, Nat.reduceBEq, reduceCtorEq, al26, ap24_24, bd26, fa26_0, fa26_1, ld24, ld26, st26]
  refine oA_own (l := []) OwnRow.nil hp.mono (by simpa using l1) fun a c H1 o1 x1 => ?_
  simp only [List.length_nil, Nat.zero_add, List.nil_append] at o1 x1 ⊢
  have e1 := x1.ext ⟨_, rfl⟩ (by intro b hb; simp [blkOf] at hb)
  have b0 := x1.at (b := H.length) (by rw [gt0]; rfl) (by simp [blkOf])
  have b1 := x1.at (b := H.length + 1) (by rw [gti]; rfl) (by simp [blkOf])
  have n1 : ∀ b, blkOf (.slice a sh.length c) = some b → H.length + 2 ≤ b := fun b hb => by
    rcases x1.new b hb with h | h
    · simp [blkOf] at h
    · simp at h; omega
  have h1 := x1.len
  simp only [List.length_append, List.length_cons, List.length_nil] at h1
  clear x1
  simp -implicitDefEqProofs only [kz, kk0, kk1, kk2, kk3, ↓two_true, ↓two_false, oS_some, oM_some, mkv, aggAt, Nat.reduceLeDiff, Nat.reduceSub, Nat.reduceMul, implies_true, Nat.reduceEqDiff, reduceIte, Nat.reduceAdd, Nat.reduceBEq, reduceCtorEq, al26, ap24_24, bd26, fa26_0, fa26_1, ld24, ld26, st26, rd_own b0]
  refine oA_own (l := []) OwnRow.nil (hq.ext e1) (by simpa using l2) fun a' c' H2 o2 x2 => ?_
  simp only [List.length_nil, Nat.zero_add, List.nil_append] at o2 x2 ⊢
  have hne : ∀ b, blkOf (.slice none 0 0) ≠ some b := fun b e => by simp [blkOf] at e
  have e2 := x2.ext e1 (by intro b hb; simp [blkOf] at hb)
  have o3 := x2.own o1 fun b _ => hne b
  have b2 := x2.at b0 (hne _)
  have b3 := x2.at b1 (hne _)
  have n2 : ∀ b, blkOf (.slice a' dt.length c') = some b → H1.length ≤ b := fun b hb => by
    rcases x2.new b hb with h | h
    · simp [blkOf] at h
    · exact h
  clear x2
  simp -implicitDefEqProofs only [kz, kk0, kk1, kk2, kk3, ↓two_true, ↓two_false, oS_some, oM_some, mkv, aggAt, Nat.reduceLeDiff, Nat.reduceSub, Nat.reduceMul, implies_true, Nat.reduceEqDiff, reduceIte, Nat.reduceAdd, Nat.reduceBEq, reduceCtorEq, al26, ap24_24, bd26, fa26_0, fa26_1, ld24, ld26, st26, rd_own b2, wrt_own b3, rd_own b0, rd_own (set_at b3)]
  refine ⟨⟨_, _, rfl, o3.set fun e => ?_, o2.set fun e => ?_, fun b h3 h4 => ?_, fun b hb => ?_, fun b hb => ?_⟩, set_ext e2 (by omega)⟩
  · have := n1 _ e; omega
  · have := n2 _ e; omega
  · have := o1.lt b h3; have := n2 b h4; omega
  · have := n1 _ hb; omega
  · have := n2 _ hb; omega

/-- A row of cells of its own; its cells may be read. -/
structure FOwn (H : AH) (v : Value) (ks : List CK) (n : Nat) (xs : List Value) : Prop where
  len : xs.length = n * ks.length
  row : (v = .slice none 0 0 ∧ n = 0) ∨ ∃ b o cs, v = .slice (some ⟨b, o, none⟩) n ks.length ∧ H[b]? = some ⟨cs, .own⟩ ∧ o + n * ks.length ≤ cs.length ∧ ∀ (j : Nat) y, xs[j]? = some y → cs[o + j]? = some y
  ok : ∀ (i c : Nat) k y, i < n → ks[c]? = some k → xs[i * ks.length + c]? = some y → KOk H k y
  out : ∀ (j : Nat) y, xs[j]? = some y → Dj v y
theorem OT.fown {H : AH} {v : Value} {ks : List CK} {n : Nat} {xs : List Value} (h : OT H v ks n xs) : FOwn H v ks n xs := ⟨h.len, h.row, h.ok, h.out⟩
theorem FOwn.frow {H : AH} {v : Value} {ks : List CK} {n : Nat} {xs : List Value} (h : FOwn H v ks n xs) : FRow H v ks n xs := by
  refine ⟨h.len, ?_, h.ok⟩
  rcases h.row with h1 | ⟨b, o, cs, h1, h2, h3⟩
  · exact .inl h1
  · exact .inr ⟨b, o, cs, h1, rd_own h2, h3⟩
theorem KOk.lt {H : AH} {k : CK} {y : Value} (h : KOk H k y) : ∀ b, blkOf y = some b → b < H.length := by
  intro b hb
  have := h.rdable b hb
  rcases Nat.lt_or_ge b H.length with h1 | h1
  · exact h1
  · unfold rd at this; rw [List.getElem?_eq_none h1] at this; cases this
theorem FRow.lt {H : AH} {v : Value} {ks : List CK} {n : Nat} {xs : List Value} (h : FRow H v ks n xs) : ∀ b, (blkOf v = some b ∨ ∃ y ∈ xs, blkOf y = some b) → b < H.length := by
  intro b hb
  have := h.rdable b hb
  rcases Nat.lt_or_ge b H.length with h1 | h1
  · exact h1
  · unfold rd at this; rw [List.getElem?_eq_none h1] at this; cases this
theorem FOwn.same {H H' : AH} {v : Value} {ks : List CK} {n : Nat} {xs : List Value} (h : FOwn H v ks n xs) (hs : ∀ b, (blkOf v = some b ∨ ∃ y ∈ xs, blkOf y = some b) → H'[b]? = H[b]?) : FOwn H' v ks n xs := by
  refine ⟨h.len, ?_, (h.frow.same fun b hb => get_rd (hs b hb)).ok, h.out⟩
  rcases h.row with h1 | ⟨b, o, cs, h1, h2, h3⟩
  · exact .inl h1
  · exact .inr ⟨b, o, cs, h1, by rw [hs b (.inl (by rw [h1]; rfl))]; exact h2, h3⟩
theorem FOwn.mono {H L : AH} {v : Value} {ks : List CK} {n : Nat} {xs : List Value} (h : FOwn H v ks n xs) : FOwn (H ++ L) v ks n xs := h.same fun b hb => List.getElem?_append_left (h.frow.lt b hb)
theorem FOwn.nil {H : AH} {ks : List CK} : FOwn H (.slice none 0 0) ks 0 [] := ⟨by simp, .inl ⟨rfl, rfl⟩, fun i c k y hi => by omega, fun j y h => by simp at h⟩
theorem OT.of {H : AH} {v : Value} {ks : List CK} {n : Nat} {xs : List Value} (h : FOwn H v ks n xs) (h1 : ∀ (j : Nat) y, xs[j]? = some y → OwnC H y) (h2 : ∀ (i j : Nat) x y, i ≠ j → xs[i]? = some x → xs[j]? = some y → Dj x y) : OT H v ks n xs := ⟨h.len, h.row, h.ok, h1, h.out, h2⟩
theorem KOk.leaf {H : AH} {k : CK} {y : Value} (h : KOk H k y) : Go.Proofs.Ytpclegiocblpmaa.AM.leaf y = true := by
  cases k with
  | i => obtain ⟨n, rfl⟩ := h; rfl
  | b => obtain ⟨n, rfl⟩ := h; rfl
  | r => obtain ⟨a, c, e⟩ := h.1.slice; rw [e]; rfl
  | w => obtain ⟨a, c, e⟩ := h.1.slice; rw [e]; rfl
theorem All2.mem {H : AH} {ks : List CK} {x : List Value} (h : All2 H ks x) {y : Value} (hy : y ∈ x) : ∃ k, KOk H k y := by
  obtain ⟨c, hc, e⟩ := List.mem_iff_getElem.1 hy
  have hl := h.len
  exact ⟨ks[c], h.get c ks[c] y (List.getElem?_eq_getElem (by omega)) (by rw [List.getElem?_eq_getElem hc, e])⟩
theorem FOwn.cl {H : AH} {v : Value} {ks : List CK} {n : Nat} {xs : List Value} (h : FOwn H v ks n xs) : cl H ks.length v = some xs ∧ lenS v = n ∧ ownOk v ks.length H = true := by
  have hl := h.len
  rcases h.row with ⟨rfl, rfl⟩ | ⟨b, o, cs, rfl, h1, h2, h3⟩
  · have : xs = [] := List.eq_nil_of_length_eq_zero (by omega)
    subst this
    exact ⟨rfl, rfl, rfl⟩
  · refine ⟨?_, rfl, by simp [ownOk, h1]⟩
    simp only [Go.Proofs.Ytpclegiocblpmaa.AM.cl, rd_own h1, Option.bind_some, if_pos h2]
    congr 1
    refine List.ext_getElem? fun j => ?_
    rcases Nat.lt_or_ge j xs.length with h4 | h4
    · rw [List.getElem?_take_of_lt (by omega), List.getElem?_drop, h3 j _ (List.getElem?_eq_getElem h4), List.getElem?_eq_getElem h4]
    · rw [List.getElem?_eq_none (by simp; omega), List.getElem?_eq_none h4]
theorem oA_push {H : AH} {v : Value} {ks : List CK} {n : Nat} {xs x : List Value} {Φ : Value → AH → Prop} (h : FOwn H v ks n xs) (hx : All2 H ks x) (hd : ∀ y ∈ x, Dj v y) (hl : n + 1 ≤ 1073741824)
    (hk : ∀ b H', FOwn H' (.slice (some ⟨b, 0, none⟩) (n + 1) ks.length) ks (n + 1) (xs ++ x) → App H v H' (.slice (some ⟨b, 0, none⟩) (n + 1) ks.length) → (∀ y ∈ xs ++ x, cv H' y = cv H y) → H.length < b → Φ (.slice (some ⟨b, 0, none⟩) (n + 1) ks.length) H') :
    oA (app ks.length v (.slice (some ⟨H.length, 0, none⟩) 1 ks.length) (H ++ [⟨x, .own⟩])) Φ := by
  obtain ⟨c1, c2, c3⟩ := (h.mono (L := [⟨x, .own⟩])).cl
  have c4 : Go.Proofs.Ytpclegiocblpmaa.AM.cl (H ++ [⟨x, .own⟩]) ks.length (.slice (some ⟨H.length, 0, none⟩) 1 ks.length) = some x := by
    simp only [Go.Proofs.Ytpclegiocblpmaa.AM.cl, rd0, List.getElem?_cons_zero, rdB_own, Option.bind_some, Nat.zero_add, Nat.one_mul]
    rw [if_pos (Nat.le_of_eq hx.len.symm), List.drop_zero, List.take_of_length_le (Nat.le_of_eq hx.len)]
  have c5 : x.all leaf = true := List.all_eq_true.2 fun y hy => by
    obtain ⟨k, hk⟩ := hx.mem hy
    exact hk.leaf
  have c6 : lenS (.slice (some ⟨H.length, 0, none⟩) 1 ks.length) = 1 := rfl
  unfold app
  rw [c1, c4]
  simp only
  rw [c6, c2, if_neg (by decide), if_pos ⟨hl, c5, c3⟩]
  have hlt := h.frow.lt
  have keep : ∀ b, b < H.length → blkOf v ≠ some b → (kill v (H ++ [⟨x, .own⟩]) ++ [⟨xs ++ x, .own⟩] : AH)[b]? = H[b]? := by
    intro b hb hn
    rw [List.getElem?_append_left (by rw [kill_len2, List.length_append]; omega), kill_keep hn, List.getElem?_append_left hb]
  have hcell : ∀ y ∈ xs ++ x, ∀ b, blkOf y = some b → (kill v (H ++ [⟨x, .own⟩]) ++ [⟨xs ++ x, .own⟩] : AH)[b]? = H[b]? := by
    intro y hy b hb
    rcases List.mem_append.1 hy with h1 | h1
    · obtain ⟨j, hj⟩ := List.mem_iff_getElem?.1 h1
      exact keep b (hlt b (.inr ⟨y, h1, hb⟩)) fun e => h.out j y hj b e hb
    · obtain ⟨k, hk⟩ := hx.mem h1
      exact keep b (hk.lt b hb) fun e => hd y h1 b e hb
  refine hk _ _ ⟨?_, ?_, ?_, ?_⟩ ⟨by rw [List.length_append, kill_len2, List.length_append]; omega, keep, fun b hb => .inr ?_⟩ (fun y hy => cv_same fun b hb => get_rd (hcell y hy b hb)) (by rw [List.length_append]; exact Nat.lt_succ_self _)
  · rw [List.length_append, h.len, hx.len, Nat.add_mul, Nat.one_mul]
  · refine .inr ⟨_, 0, xs ++ x, rfl, by rw [← kill_len2 (v := v), gt0]; rfl, by rw [List.length_append, h.len, hx.len, Nat.add_mul]; omega, fun j y hy => by rw [Nat.zero_add]; exact hy⟩
  · intro i c k y hi hk' hy
    have hmem : y ∈ xs ++ x := List.mem_of_getElem? hy
    refine KOk.same (H := H) ?_ fun b hb => get_rd (hcell y hmem b hb)
    have hc := (List.getElem?_eq_some_iff.1 hk').1
    rcases Nat.lt_or_ge i n with h1 | h1
    · have := row_lt (s := ks.length) h1
      rw [List.getElem?_append_left (by rw [h.len]; omega)] at hy
      exact h.ok i c k y h1 hk' hy
    · have : i = n := by omega
      subst this
      rw [List.getElem?_append_right (by rw [h.len]; omega), h.len, Nat.add_sub_cancel_left] at hy
      exact hx.get c k y hk' hy
  · intro j y hy b hb hb2
    simp [blkOf] at hb
    have hmem : y ∈ xs ++ x := List.mem_of_getElem? hy
    have : b < H.length := by
      rcases List.mem_append.1 hmem with h1 | h1
      · exact hlt b (.inr ⟨y, h1, hb2⟩)
      · obtain ⟨k, hk⟩ := hx.mem h1
        exact hk.lt b hb2
    omega
  · simp [blkOf] at hb; omega
theorem cvs_take {H : AH} {s i : Nat} {xs : List Value} : (cvs H xs).take ((i + 1) * s) = (cvs H xs).take (i * s) ++ (elm s xs i).map (cv H) := by
  unfold cvs elm
  rw [Nat.add_mul, Nat.one_mul, List.take_add, List.map_take, List.map_drop]
/-- All of a row is its own, and no older than a heap. -/
structure New (H0 H : AH) (v : Value) (ks : List CK) (n : Nat) (ys : List Value) : Prop where
  ot : OT H v ks n ys
  fr : ∀ b, (blkOf v = some b ∨ ∃ y ∈ ys, blkOf y = some b) → H0.length ≤ b
theorem New.mono {H0 H L : AH} {v : Value} {ks : List CK} {n : Nat} {ys : List Value} (h : New H0 H v ks n ys) : New H0 (H ++ L) v ks n ys := ⟨h.ot.mono, h.fr⟩
theorem New.nil {H0 H : AH} {ks : List CK} : New H0 H (.slice none 0 0) ks 0 [] := ⟨OT.of FOwn.nil (fun j y h => by simp at h) fun i j x y _ h => by simp at h, fun b hb => by simp [blkOf] at hb⟩
/-- A new element is put behind a row that is its own. -/
theorem oA_new {H0 H1 H : AH} {v : Value} {ks : List CK} {n : Nat} {xs x : List Value} {Φ : Value → AH → Prop} (h : New H0 H1 v ks n xs) (he : ∃ K, H = H1 ++ K) (hx : All2 H ks x) (ho : ∀ y ∈ x, OwnC H y) (hf : ∀ y ∈ x, ∀ b, blkOf y = some b → H1.length ≤ b)
    (hdj : ∀ (i j : Nat) y z, i ≠ j → x[i]? = some y → x[j]? = some z → Dj y z) (h0 : H0.length ≤ H1.length) (hl : n + 1 ≤ 1073741824)
    (hk : ∀ b H', New H0 H' (.slice (some ⟨b, 0, none⟩) (n + 1) ks.length) ks (n + 1) (xs ++ x) → App H v H' (.slice (some ⟨b, 0, none⟩) (n + 1) ks.length) → cvs H' (xs ++ x) = cvs H1 xs ++ x.map (cv H) → Φ (.slice (some ⟨b, 0, none⟩) (n + 1) ks.length) H') :
    oA (app ks.length v (.slice (some ⟨H.length, 0, none⟩) 1 ks.length) (H ++ [⟨x, .own⟩])) Φ := by
  obtain ⟨K, rfl⟩ := he
  have hd : ∀ y ∈ x, Dj v y := fun y hy b hb hb2 => by
    have := h.ot.lt b (.inl hb); have := hf y hy b hb2; omega
  have hxx : ∀ y ∈ x, ∀ z ∈ xs, Dj y z := fun y hy z hz b hb hb2 => by
    have := h.ot.lt b (.inr ⟨z, hz, hb2⟩); have := hf y hy b hb; omega
  refine oA_push h.ot.mono.fown hx hd hl fun b H' f a c hb => hk b H' ⟨OT.of f ?_ ?_, ?_⟩ a ?_
  · intro j y hy
    have hmem := List.mem_of_getElem? hy
    have hold : OwnC (H1 ++ K) y := by
      rcases List.mem_append.1 hmem with h1 | h1
      · obtain ⟨i, hi⟩ := List.mem_iff_getElem?.1 h1
        exact h.ot.mono.own i y hi
      · exact ho y h1
    refine hold.same fun g hg => a.keep g (hold.lt g hg) fun e => ?_
    rcases List.mem_append.1 hmem with h1 | h1
    · obtain ⟨i, hi⟩ := List.mem_iff_getElem?.1 h1
      exact h.ot.out i y hi g e hg
    · exact hd y h1 g e hg
  · intro i j y z hij hy hz
    rw [List.getElem?_append] at hy hz
    split at hy <;> split at hz
    · exact h.ot.dif i j y z hij hy hz
    · exact (hxx z (List.mem_of_getElem? hz) y (List.mem_of_getElem? hy)).symm
    · exact hxx y (List.mem_of_getElem? hy) z (List.mem_of_getElem? hz)
    · exact hdj _ _ y z (by omega) hy hz
  · rintro g (hg | ⟨y, hy, hg⟩)
    · simp [blkOf] at hg; rw [List.length_append] at hb; omega
    · rcases List.mem_append.1 hy with h1 | h1
      · exact h.fr g (.inr ⟨y, h1, hg⟩)
      · have := hf y h1 g hg; omega
  · have e1 : cvs (H1 ++ K) xs = cvs H1 xs := h.ot.frow.vals
    rw [← e1]
    unfold cvs
    rw [List.map_append, List.map_congr_left fun y hy => c y (List.mem_append.2 (.inl hy)), List.map_congr_left fun y hy => c y (List.mem_append.2 (.inr hy))]
theorem FRow.opn {H : AH} {v : Value} {ks : List CK} {n : Nat} {xs : List Value} (s : Nat) (hs : ks.length = s) (h : FRow H v ks n xs) : ∃ a c, v = .slice a n c ∧ (0 < n → ∃ b o cs, a = some ⟨b, o, none⟩ ∧ c = s ∧ rd H b = some cs ∧ o + n * s ≤ cs.length ∧
    ∀ i, i < n → aggAt s (o + i * s) cs = some (.agg (elm s xs i).toArray) ∧ ∀ (c : Nat) y, (elm s xs i)[c]? = some y → cs[o + i * s + c]? = some y) := by
  subst hs; exact h.op
theorem FRow.elemn {H : AH} {v : Value} {ks : List CK} {n : Nat} {xs : List Value} (s : Nat) (hs : ks.length = s) (h : FRow H v ks n xs) {i : Nat} (hi : i < n) : All2 H ks (elm s xs i) := by
  subst hs; exact h.elem hi
theorem oA_newn {H0 H1 H : AH} {v : Value} {ks : List CK} {n : Nat} {xs x : List Value} {Φ : Value → AH → Prop} (s : Nat) (hs : ks.length = s) (h : New H0 H1 v ks n xs) (he : ∃ K, H = H1 ++ K) (hx : All2 H ks x) (ho : ∀ y ∈ x, OwnC H y) (hf : ∀ y ∈ x, ∀ b, blkOf y = some b → H1.length ≤ b)
    (hdj : ∀ (i j : Nat) y z, i ≠ j → x[i]? = some y → x[j]? = some z → Dj y z) (h0 : H0.length ≤ H1.length) (hl : n + 1 ≤ 1073741824)
    (hk : ∀ b H', New H0 H' (.slice (some ⟨b, 0, none⟩) (n + 1) s) ks (n + 1) (xs ++ x) → App H v H' (.slice (some ⟨b, 0, none⟩) (n + 1) s) → cvs H' (xs ++ x) = cvs H1 xs ++ x.map (cv H) → Φ (.slice (some ⟨b, 0, none⟩) (n + 1) s) H') :
    oA (app s v (.slice (some ⟨H.length, 0, none⟩) 1 s) (H ++ [⟨x, .own⟩])) Φ := by
  subst hs
  exact oA_new h he hx ho hf hdj h0 hl hk
theorem New.blk {H0 H : AH} {v : Value} {ks : List CK} {n : Nat} {ys : List Value} (h : New H0 H v ks n ys) : ∀ b, blkOf v = some b → H0.length ≤ b := fun b hb => h.fr b (.inl hb)
theorem pw_get {x : List Value} (h : x.Pairwise Dj) : ∀ (i j : Nat) y z, i ≠ j → x[i]? = some y → x[j]? = some z → Dj y z := by
  intro i j y z hij hy hz
  obtain ⟨h1, e1⟩ := List.getElem?_eq_some_iff.1 hy
  obtain ⟨h2, e2⟩ := List.getElem?_eq_some_iff.1 hz
  rw [List.pairwise_iff_getElem] at h
  rcases Nat.lt_or_gt_of_ne hij with h3 | h3
  · have := h i j h1 h2 h3
    rwa [e1, e2] at this
  · have := h j i h2 h1 h3
    rw [e1, e2] at this
    exact this.symm
theorem dj_bool {s : Bool} {v : Value} : Dj (.bool s) v := fun b h => by simp [blkOf] at h
theorem MC.at {H H' : AH} {v : Value} {ks : List CK} {n p : Nat} {xs ys : List Value} {k q : Int} (s : Nat) (hs : ks.length = s) (h : MC H v ks n xs k p q ys H') {b o : Nat} {c : Nat} (hv : v = .slice (some ⟨b, o, none⟩) n c) (hn : 0 < n) :
    c = s ∧ ∃ cs, H'[b]? = some ⟨cs, .own⟩ ∧ o + n * s ≤ cs.length ∧ ∀ (j : Nat) y, ys[j]? = some y → cs[o + j]? = some y := by
  subst hs
  rcases h.ot.row with ⟨_, h1⟩ | ⟨b', o', cs, h1, h2⟩
  · omega
  · rw [hv] at h1
    simp only [Value.slice.injEq, Option.some.injEq, Addr.mk.injEq] at h1
    obtain ⟨⟨rfl, rfl, _⟩, _, rfl⟩ := h1
    exact ⟨rfl, cs, h2⟩
theorem OwnC.row {H : AH} {y : Value} (h : OwnC H y) (hk : OkI H y) : OwnRow H y (rowI H y) := by
  rcases h with ⟨n, rfl⟩ | ⟨x, rfl⟩ | h
  · obtain ⟨a, c, e⟩ := hk.slice; cases e
  · obtain ⟨a, c, e⟩ := hk.slice; cases e
  · exact h
theorem OwnRow.blk {H : AH} {v : Value} {l : List Int} (h : OwnRow H v l) (hl : 0 < l.length) : ∃ b o cs, v = .slice (some ⟨b, o, none⟩) l.length 1 ∧ H[b]? = some ⟨cs, .own⟩ ∧ o + l.length ≤ cs.length ∧ ∀ (i : Nat) x, l[i]? = some x → cs[o + i]? = some (.int .i64 x) := by
  rcases h with ⟨rfl, rfl⟩ | ⟨b, o, cs, rfl, h1, h2, h3⟩
  · simp at hl
  · refine ⟨b, o, cs, rfl, h1, h2, fun i x hx => ?_⟩
    obtain ⟨hi, e⟩ := List.getElem?_eq_some_iff.1 hx
    have := ints_get hi
    rw [← h3, List.getElem?_take_of_lt hi, List.getElem?_drop, e] at this
    exact this
theorem OwnRow.ext {H H' : AH} {v : Value} {l : List Int} (h : OwnRow H v l) (he : ∃ K, H' = H ++ K) : OwnRow H' v l := by obtain ⟨K, rfl⟩ := he; exact h.mono
theorem get_ext {H H' : AH} {b : Nat} {k : Blk} (h : H[b]? = some k) (he : ∃ K, H' = H ++ K) : H'[b]? = some k := by obtain ⟨K, rfl⟩ := he; exact gtl h
theorem rd_ext {H H' : AH} {b : Nat} {cs : List Value} (h : rd H b = some cs) (he : ∃ K, H' = H ++ K) : rd H' b = some cs := by obtain ⟨K, rfl⟩ := he; rw [rdl (by simp [h]), h]
theorem All2.ext {H H' : AH} {ks : List CK} {x : List Value} (h : All2 H ks x) (he : ∃ K, H' = H ++ K) : All2 H' ks x ∧ x.map (cv H') = x.map (cv H) := by obtain ⟨K, rfl⟩ := he; exact ⟨h.mono, h.mapcv⟩
theorem intRow1 {H : AH} {d : Int} : IntRow (H ++ [⟨[.int .i64 d], .own⟩]) (.slice (some ⟨H.length, 0, none⟩) 1 1) [d] :=
  .inr ⟨H.length, 0, [.int .i64 d], rfl, by rw [rd0]; rfl, by simp, by simp [ints]⟩

abbrev kVar : List CK := [.b, .r, .r]
/-- Two cells of an array. -/
theorem agg2 {cs : List Value} {o : Nat} {p q : Value} (h1 : cs[o]? = some p) (h2 : cs[o + 1]? = some q) : aggAt 2 o cs = some (.agg #[p, q]) := by
  have hl := (List.getElem?_eq_some_iff.1 h2).1
  refine aggAt_row (x := [p, q]) rfl (by omega) fun j y hj => ?_
  match j, hj with
  | 0, hj => simp at hj; subst hj; exact h1
  | 1, hj => simp at hj; subst hj; exact h2
  | j + 2, hj => simp at hj
theorem OwnRow.kok {H : AH} {p : Value} {l : List Int} (h : OwnRow H p l) (hl : l.length < 1073741825) : KOk H .r p ∧ OwnC H p ∧ cv H p = .r l := by
  refine ⟨⟨h.int.ok, by rw [h.rowI]; exact hl⟩, .inr (.inr (by rw [h.rowI]; exact h)), ?_⟩
  rw [cv_row h.int.ok, h.rowI]

set_option maxHeartbeats 4000000 in
theorem copyVars_ok {H : AH} {v : Value} {n : Nat} {xs : List Value} (hv : FRow H v kVar n xs) (hl : n ≤ 1073741824) :
    CallsA Try.prog 55 #[v] H fun r H' => (∃ ys, New H H' r kVar n ys ∧ cvs H' ys = cvs H xs) ∧ ∃ K, H' = H ++ K := by
  obtain ⟨a, c, rfl, gv⟩ := hv.opn 3 rfl
  refine w55 ?_
  unfold k55
  simp -implicitDefEqProofs only [kz, kk0, kk1, kk2, kk3, ↓two_true, ↓two_false, oS_some, oM_some, mkv, aggAt, Nat.reduceLeDiff, Nat.reduceSub, Nat.reduceMul, implies_true, Nat.reduceEqDiff, reduceIte, Nat.reduceAdd, Nat.reduceBEq, reduceCtorEq, al49, ap35_35, bd49, bs35_1, fa49_0, fa49_1, ix35, ld4, ld26, ld49, ln35, st49]
  refine rW_loop (σ := Nat × Option Addr × Nat × List Value) (fun (i, a', c', ys) tm H' => tm 6 = .slice a n c ∧ tm 7 = .int .i64 n ∧ tm 3 = .slice a' i c' ∧ tm 8 = .int .i64 i ∧ i ≤ n ∧ New H H' (.slice a' i c') kVar i ys ∧ cvs H' ys = (cvs H xs).take (i * 3) ∧ ∃ K, H' = H ++ K) (fun s => n - s.1) (0, none, 0, []) ?_ ?_
  · simp -implicitDefEqProofs [kk0, kk1, kk2, kk3, rW_block, ↓two_true, ↓two_false, rW_cond, rO_guard, oS_some, oM_some, mkv, aggAt, Nat.reduceLeDiff, Nat.reduceSub, Nat.reduceMul, cond_true, cond_false, Option.bind_some, List.length_append, List.length_cons, List.length_nil, List.append_assoc, List.cons_append, List.nil_append, List.set_cons_zero, List.set_cons_succ, List.size_toArray, List.all_cons, List.all_nil, List.drop_zero, List.drop_succ_cons, List.take_succ_cons, List.take_zero, List.mem_cons, Prod.mk.injEq, List.not_mem_nil, implies_true, List.getElem?_toArray, List.getElem?_cons_zero, List.getElem?_cons_succ, List.getElem?_nil, Option.getD_some, Option.getD_none, Nat.reduceEqDiff, reduceIte, Nat.reduceAdd, List.map_toArray, List.map_cons, List.map_nil, Bool.false_eq_true, Nat.reduceBEq, Option.map_some, Option.map_none, reduceCtorEq, al49, ap35_35, bd49, bs35_1, fa49_0, fa49_1, ix35, ld4, ld26, ld49, ln35, st49]
    exact ⟨New.nil, rfl⟩
  · rintro ⟨i, a', c', ys⟩ tm H1 ⟨h0, h1, h3, h4, hi, hn, hc, he⟩
    simp -implicitDefEqProofs only [kz, kk0, kk1, kk2, kk3, ↓two_true, ↓two_false, oS_some, oM_some, mkv, aggAt, Nat.reduceLeDiff, Nat.reduceSub, Nat.reduceMul, implies_true, Nat.reduceEqDiff, reduceIte, Nat.reduceAdd, Nat.reduceBEq, reduceCtorEq, al49, ap35_35, bd49, bs35_1, fa49_0, fa49_1, ix35, ld4, ld26, ld49, ln35, st49, h0, h1, h3, h4]
    refine two_intro (fun hc' => ?_) (fun hc' => ?_)
    · have hlt : i < n := by simpa using hc'
      obtain ⟨b, o, cs, rfl, rfl, hrd, hle, hcell⟩ := gv (by omega)
      obtain ⟨hagg, hce⟩ := hcell i hlt
      obtain ⟨y0, _, e, ⟨s, rfl⟩, y1, _, rfl, k1, y2, _, rfl, k2, rfl⟩ := hv.elemn 3 rfl hlt
      rw [e] at hagg
      have hlen := ext_len he
      have hrd1 : rd H1 b = some cs := by obtain ⟨K, rfl⟩ := he; rw [rdl (by simp [hrd]), hrd]
      have l1 : ld Try.prog 49 (o + i * 3) cs = some (.agg #[.bool s, y1, y2]) := by rw [ld49]; exact hagg
      obtain ⟨a1, c1, e1⟩ := k1.1.slice
      obtain ⟨a2, c2, e2⟩ := k2.1.slice
      have z1 := cv_row k1.1
      have z2 := cv_row k2.1
      have hr1 : IntRow H1 y1 (rowI H y1) := IntRow.ext k1.1 he
      have hr2 : IntRow H1 y2 (rowI H y2) := IntRow.ext k2.1 he
      have w1 := k1.2
      have w2 := k2.2
      generalize rowI H y1 = m1 at *
      generalize rowI H y2 = m2 at *
      subst e1; subst e2
      simp -implicitDefEqProofs only [kz, kk0, kk1, kk2, kk3, ↓two_true, ↓two_false, oS_some, oM_some, mkv, aggAt, Nat.reduceLeDiff, Nat.reduceSub, Nat.reduceMul, implies_true, Nat.reduceEqDiff, reduceIte, Nat.reduceAdd, Nat.reduceBEq, reduceCtorEq, al49, ap35_35, bd49, bs35_1, fa49_0, fa49_1, ix35, ld4, ld26, ld49, ln35, st49, h0, h1, h3, h4, Int.toNat_natCast, hrd1, l1]
      refine ⟨⟨by omega, by omega⟩, (copyArray_ok hr1.mono hr2.mono (by omega) (by omega)).mono ?_⟩
      rintro _ H2 ⟨⟨p', q', rfl, o1, o2, dj, n1, n2⟩, hK2⟩
      obtain ⟨a3, c3, e3⟩ := o1.isSlice
      obtain ⟨a4, c4, e4⟩ := o2.isSlice
      have g2 : rd H2 H1.length = some [.bool s, .slice a1 m1.length c1, .slice a2 m2.length c2] := by obtain ⟨K, rfl⟩ := hK2; rw [rdl (by rw [rd0]; rfl), rd0]; rfl
      have r1 := o1.kok (by omega)
      have r2 := o2.kok (by omega)
      subst e3; subst e4
      simp -implicitDefEqProofs only [kz, kk0, kk1, kk2, kk3, ↓two_true, ↓two_false, oS_some, oM_some, mkv, aggAt, Nat.reduceLeDiff, Nat.reduceSub, Nat.reduceMul, implies_true, Nat.reduceEqDiff, reduceIte, Nat.reduceAdd, Nat.reduceBEq, reduceCtorEq, al49, ap35_35, bd49, bs35_1, fa49_0, fa49_1, ix35, ld4, ld26, ld49, ln35, st49, h0, h1, h3, h4, g2]
      refine oA_newn 3 rfl hn (ext_trans ⟨_, rfl⟩ hK2) ⟨_, _, rfl, ⟨s, rfl⟩, _, _, rfl, r1.1, _, _, rfl, r2.1, rfl⟩ ?_ ?_ ?_ hlen (by omega) fun b' H3 f3 x3 v3 => ?_
      · simp; exact ⟨.inr (.inl ⟨s, rfl⟩), r1.2.1, r2.2.1⟩
      · simp [blkOf] at n1 n2 ⊢
        exact ⟨fun b h => by have := n1 b h; omega, fun b h => by have := n2 b h; omega⟩
      · exact pw_get (by simp [dj_bool, dj])
      · simp -implicitDefEqProofs only [kz, kk0, kk1, kk2, kk3, ↓two_true, ↓two_false, oS_some, oM_some, mkv, aggAt, Nat.reduceLeDiff, Nat.reduceSub, Nat.reduceMul, implies_true, Nat.reduceEqDiff, reduceIte, Nat.reduceAdd, Nat.reduceBEq, reduceCtorEq, al49, ap35_35, bd49, bs35_1, fa49_0, fa49_1, ix35, ld4, ld26, ld49, ln35, st49, h0, h1, h3, h4]
        have he3 := x3.ext (H0 := H) (ext_trans he (ext_trans ⟨_, rfl⟩ hK2)) hn.blk
        rw [IntWalk.i64_in (↑i + 1) (by omega)]
        refine ⟨(i + 1, _, _, _), by simp only; omega, rfl, by simp, hlt, f3, ?_, he3⟩
        rw [v3, hc, cvs_take, e]
        simp only [List.map_cons, List.map_nil, r1.2.2, r2.2.2, z1, z2]
        rfl
    · have hil : i = n := by have : ¬ i < n := by simpa using hc'
                             omega
      subst hil
      refine ⟨⟨ys, hn, ?_⟩, he⟩
      rw [hc, List.take_of_length_le]
      have := hv.len
      simp [cvs, this]

abbrev kExpr : List CK := [.i, .i, .i, .i, .i, .i, .r]

theorem SOwn.new {H : AH} {s : Nat} {xs : List (List Value)} (h : ∀ x ∈ xs, x.length = s) : SOwn (H ++ [⟨xs.flatten, .own⟩]) (.slice (some ⟨H.length, 0, none⟩) xs.length s) s xs := by
  obtain ⟨h1, h2⟩ := flat_get xs h
  refine .inr ⟨H.length, 0, xs.flatten, rfl, by rw [gt0]; rfl, by rw [h1]; omega, ?_⟩
  intro i x hx
  have hl := h x (List.mem_iff_getElem?.2 ⟨i, hx⟩)
  refine ⟨hl, fun j y hy => ?_⟩
  have hj : j < s := by rw [← hl]; exact (List.getElem?_eq_some_iff.1 hy).1
  rw [← h2 i x hx, List.getElem?_take_of_lt hj, List.getElem?_drop] at hy
  rw [Nat.zero_add]
  exact hy

def funOne (s o w : Int) : Bool := w == 0 && ((o == 0 && (sg1 s || (s == 105 || s == 35 || s == 44 || s == 114 || s == 122 || s == 103))) || ((o == 47 || o == 92) && sg2 s))
def funTwo (s o w : Int) : Bool := (o == 46 && (sg2 s && sg2 w)) || (w == 0 && ((o == 111 && sg2 s) || (o == 0 && (sg2 s || (s == 35 || s == 44 || s == 116 || s == 100 || s == 114 || s == 64 || s == 63 || s == 36 || s == 101)))))

set_option maxHeartbeats 4000000 in
theorem implFunOne_ok (s o w : Int) (H : AH) : CallsA Try.prog 82 #[.agg #[.int .i64 s, .int .i64 o, .int .i64 w]] H fun r H' => r = .bool (funOne s o w) ∧ ∃ K, H' = H ++ K := by
  refine w82 ?_
  unfold k82
  simp -implicitDefEqProofs only [kz, kk0, kk1, kk2, kk3, ↓two_true, ↓two_false, oS_some, oM_some, mkv, aggAt, Nat.reduceLeDiff, Nat.reduceSub, Nat.reduceMul, implies_true, Nat.reduceEqDiff, reduceIte, Nat.reduceAdd, Nat.reduceBEq, reduceCtorEq, fa41_0, fa41_1, fa41_2, ld3, oneSign_eq, twoSign_eq, hasSign_eq, bs_size, Nat.reduceLT, hasS_3]
  simp +contextual [two, funOne]
theorem implFunOne_eq {s o w : Int} {H : AH} {Φ : Value → AH → Prop} : CallsA Try.prog 82 #[.agg #[.int .i64 s, .int .i64 o, .int .i64 w]] H Φ = Φ (.bool (funOne s o w)) (H ++ jk Try.prog 82 #[.agg #[.int .i64 s, .int .i64 o, .int .i64 w]] H) := (implFunOne_ok s o w H).eqV

set_option maxHeartbeats 4000000 in
theorem implFunTwo_ok (s o w : Int) (H : AH) : CallsA Try.prog 88 #[.agg #[.int .i64 s, .int .i64 o, .int .i64 w]] H fun r H' => r = .bool (funTwo s o w) ∧ ∃ K, H' = H ++ K := by
  refine w88 ?_
  unfold k88
  simp -implicitDefEqProofs only [kz, kk0, kk1, kk2, kk3, ↓two_true, ↓two_false, oS_some, oM_some, mkv, aggAt, Nat.reduceLeDiff, Nat.reduceSub, Nat.reduceMul, implies_true, Nat.reduceEqDiff, reduceIte, Nat.reduceAdd, Nat.reduceBEq, reduceCtorEq, fa41_0, fa41_1, fa41_2, ld3, twoSign_eq, hasSign_eq, bs_size, Nat.reduceLT, hasS_4]
  simp +contextual [two, funTwo]
theorem implFunTwo_eq {s o w : Int} {H : AH} {Φ : Value → AH → Prop} : CallsA Try.prog 88 #[.agg #[.int .i64 s, .int .i64 o, .int .i64 w]] H Φ = Φ (.bool (funTwo s o w)) (H ++ jk Try.prog 88 #[.agg #[.int .i64 s, .int .i64 o, .int .i64 w]] H) := (implFunTwo_ok s o w H).eqV

def prodI (l : List Int) : Int := l.foldl (fun a b => a * b) 1
def sizeI (l : List Int) : Int := if 3 < l.length then -1 else if l.all (fun x => inB x 0 300) = true then (if prodI l > 300 then -1 else prodI l) else -1
theorem prodI_snoc {l : List Int} {x : Int} : prodI (l ++ [x]) = prodI l * x := by simp [prodI]
set_option maxHeartbeats 4000000 in
theorem pow_step {p x : Int} {i : Nat} (hp : 0 ≤ p ∧ p ≤ 300 ^ i) (hx : 0 ≤ x ∧ x ≤ 300) : 0 ≤ p * x ∧ p * x ≤ 300 ^ (i + 1) := by
  refine ⟨Int.mul_nonneg hp.1 hx.1, ?_⟩
  rw [Int.pow_succ]
  exact Int.mul_le_mul hp.2 hx.2 hx.1 (by have := hp.1; have := hp.2; omega)
theorem pow_lim {i : Nat} (h : i ≤ 3) : (300 : Int) ^ i ≤ 27000000 := by
  match i, h with
  | 0, _ => decide
  | 1, _ => decide
  | 2, _ => decide
  | 3, _ => decide
theorem all_take_false {l : List Int} {i : Nat} {f : Int → Bool} (h : i < l.length) (hf : f l[i] = false) : l.all f = false := by
  rw [Bool.eq_false_iff]
  intro ha
  have := (List.all_eq_true.1 ha) l[i] (List.getElem_mem h)
  rw [hf] at this; cases this

set_option maxHeartbeats 4000000 in
theorem implSizeOf_ok {H : AH} {v : Value} {l : List Int} (hv : IntRow H v l) (hl : l.length < 4611686018427387904) : CallsA Try.prog 64 #[v] H fun r H' => r = .int .i64 (sizeI l) ∧ H' = H := by
  obtain ⟨a, c, rfl, gv⟩ := hv.op
  refine w64 ?_
  unfold k64
  simp -implicitDefEqProofs only [kz, kk0, kk1, kk2, kk3, ↓two_true, ↓two_false, oS_some, oM_some, mkv, aggAt, Nat.reduceLeDiff, Nat.reduceSub, Nat.reduceMul, implies_true, Nat.reduceEqDiff, reduceIte, Nat.reduceAdd, Nat.reduceBEq, reduceCtorEq, ix24, ld3, ln24]
  refine two_intro (fun h => ?_) (fun h => ?_)
  · have h' : 3 < l.length := by simp at h; omega
    rw [sizeI, if_pos h']
  · have h' : ¬ 3 < l.length := by simp at h; omega
    refine rW_loop (σ := Nat) (fun i tm H' => tm 9 = .slice a l.length c ∧ tm 10 = .int .i64 l.length ∧ tm 11 = .int .i64 i ∧ tm 3 = .int .i64 (prodI (l.take i)) ∧ H' = H ∧ i ≤ l.length ∧ (0 ≤ prodI (l.take i) ∧ prodI (l.take i) ≤ 300 ^ i) ∧ ∀ x ∈ l.take i, inB x 0 300 = true) (fun i => l.length - i) 0 ?_ ?_
    · simp -implicitDefEqProofs [kk0, kk1, kk2, kk3, rW_block, ↓two_true, ↓two_false, rW_cond, rO_guard, oS_some, oM_some, mkv, aggAt, Nat.reduceLeDiff, Nat.reduceSub, Nat.reduceMul, cond_true, cond_false, Option.bind_some, List.length_append, List.length_cons, List.length_nil, List.append_assoc, List.cons_append, List.nil_append, List.set_cons_zero, List.set_cons_succ, List.size_toArray, List.all_cons, List.all_nil, List.drop_zero, List.drop_succ_cons, List.take_succ_cons, List.take_zero, List.mem_cons, Prod.mk.injEq, List.not_mem_nil, implies_true, List.getElem?_toArray, List.getElem?_cons_zero, List.getElem?_cons_succ, List.getElem?_nil, Option.getD_some, Option.getD_none, Nat.reduceEqDiff, reduceIte, Nat.reduceAdd, List.map_toArray, List.map_cons, List.map_nil, Bool.false_eq_true, Nat.reduceBEq, Option.map_some, Option.map_none, reduceCtorEq, ix24, ld3, ln24, prodI]
    · rintro i tm H' ⟨h9, h10, h11, h3, rfl, hi, hp, ha⟩
      simp -implicitDefEqProofs only [kz, kk0, kk1, kk2, kk3, ↓two_true, ↓two_false, oS_some, oM_some, mkv, aggAt, Nat.reduceLeDiff, Nat.reduceSub, Nat.reduceMul, implies_true, Nat.reduceEqDiff, reduceIte, Nat.reduceAdd, Nat.reduceBEq, reduceCtorEq, ix24, ld3, ln24, h9, h10, h11, h3, within_eq]
      refine two_intro (fun hc => ?_) (fun hc => ?_)
      · have hc' : i < l.length := by simpa using hc
        obtain ⟨b, o, cs, rfl, rfl, hrd, _, hcell⟩ := gv (by omega)
        have hlim := pow_lim (i := i + 1) (by omega)
        simp -implicitDefEqProofs only [kz, kk0, kk1, kk2, kk3, ↓two_true, ↓two_false, oS_some, oM_some, mkv, aggAt, Nat.reduceLeDiff, Nat.reduceSub, Nat.reduceMul, implies_true, Nat.reduceEqDiff, reduceIte, Nat.reduceAdd, Nat.reduceBEq, reduceCtorEq, ix24, ld3, ln24, h9, h10, h11, h3, within_eq, Int.toNat_natCast, Nat.mul_one, hrd, hcell i hc', IntWalk.i64_in (↑i + 1) (by omega)]
        refine ⟨⟨by omega, by omega⟩, two_intro (fun h => ?_) (fun h => ?_)⟩
        · have hb : inB l[i] 0 300 = false := by simpa using h
          rw [sizeI, if_neg h', all_take_false hc' hb]
          simp
        · have hb : inB l[i] 0 300 = true := by simpa using h
          have hst := pow_step hp (inB_true.1 hb)
          have e1 : prodI (l.take (i + 1)) = prodI (l.take i) * l[i] := by rw [List.take_succ_eq_append_getElem hc', prodI_snoc]
          rw [IntWalk.i64_in (prodI (l.take i) * l[i]) (by omega)]
          refine ⟨i + 1, by omega, by simp, by rw [e1], hc', by rw [e1]; exact hst, ?_⟩
          intro x hx
          rw [List.take_succ_eq_append_getElem hc'] at hx
          rcases List.mem_append.1 hx with hx | hx
          · exact ha x hx
          · rw [List.mem_singleton.1 hx]; exact hb
      · have hc' : ¬ i < l.length := by simpa using hc
        have hil : i = l.length := by omega
        subst hil
        rw [List.take_length] at ha ⊢
        have hall : l.all (fun x => inB x 0 300) = true := List.all_eq_true.2 ha
        refine two_intro (fun h => ?_) (fun h => ?_)
        · rw [sizeI, if_neg h', if_pos hall, if_pos (by simpa using h)]
        · rw [sizeI, if_neg h', if_pos hall, if_neg (by simpa using h)]
def arrOk (sh dt : List Int) : Bool := ((dt.length : Int) == sizeI sh) && dt.all numOk
theorem any_not {l : List Int} : (l.any fun x => !numOk x) = !l.all numOk := List.not_all_eq_any_not.symm
def idxF {α : Type} (p : α → Bool) (l : List α) : Int := match l.findIdx? p with | some i => i | none => -1
theorem idxF_some {α : Type} {p : α → Bool} {l : List α} {i : Nat} (hi : i < l.length) (h : p l[i] = true) (hn : ∀ x ∈ l.take i, p x = false) : idxF p l = i := by
  have : l.findIdx? p = some i := by
    rw [List.findIdx?_eq_some_iff_getElem]
    refine ⟨hi, h, fun j hj => ?_⟩
    have hji : j < l.length := by omega
    have := hn l[j] (List.mem_iff_getElem?.2 ⟨j, by rw [List.getElem?_take_of_lt hj, List.getElem?_eq_getElem hji]⟩)
    simp [this]
  simp [idxF, this]
theorem idxF_none {α : Type} {p : α → Bool} {l : List α} (hn : ∀ x ∈ l, p x = false) : idxF p l = -1 := by
  have : l.findIdx? p = none := by
    rw [List.findIdx?_eq_none_iff]; exact hn
  simp [idxF, this]
theorem idxF_any {α : Type} {p : α → Bool} {l : List α} : decide (idxF p l ≥ 0) = l.any p := by
  cases h : l.findIdx? p with
  | none =>
    have h2 := List.findIdx?_eq_none_iff.1 h
    have : l.any p = false := by
      rw [Bool.eq_false_iff]
      intro ha
      obtain ⟨x, hx, hp⟩ := List.any_eq_true.1 ha
      rw [h2 x hx] at hp; cases hp
    simp [idxF, h, this]
  | some i =>
    obtain ⟨hi, hp, _⟩ := List.findIdx?_eq_some_iff_getElem.1 h
    have : l.any p = true := List.any_eq_true.2 ⟨l[i], List.getElem_mem hi, hp⟩
    simp [idxF, h, this]

set_option maxHeartbeats 4000000 in
theorem indexFuncI_ok {H : AH} {v : Value} {l : List Int} {g : FuncId} {p : Int → Bool} (hv : IntRow H v l) (hl : l.length < 4611686018427387904) (hp : ∀ x (H : AH) (Φ : Value → AH → Prop), CallsA Try.prog g #[.int .i64 x] H Φ = Φ (.bool (p x)) H) :
    CallsA Try.prog 102 #[v, .func (.func g) #[] #[]] H fun r H' => r = .int .i64 (idxF p l) ∧ H' = H := by
  obtain ⟨a, c, rfl, gv⟩ := hv.op
  refine w102 ?_
  unfold k102
  simp -implicitDefEqProofs only [kz, kk0, kk1, kk2, kk3, ↓two_true, ↓two_false, oS_some, oM_some, mkv, aggAt, Nat.reduceLeDiff, Nat.reduceSub, Nat.reduceMul, implies_true, Nat.reduceEqDiff, reduceIte, Nat.reduceAdd, Nat.reduceBEq, reduceCtorEq, ix24, ld3, ln24]
  refine rW_loop (σ := Nat) (fun i tm H' => tm 0 = .slice a l.length c ∧ tm 1 = .func (.func g) #[] #[] ∧ tm 7 = .int .i64 l.length ∧ tm 8 = .int .i64 i ∧ H' = H ∧ i ≤ l.length ∧ ∀ x ∈ l.take i, p x = false) (fun i => l.length - i) 0 ?_ ?_
  · simp -implicitDefEqProofs [kk0, kk1, kk2, kk3, rW_block, ↓two_true, ↓two_false, rW_cond, rO_guard, oS_some, oM_some, mkv, aggAt, Nat.reduceLeDiff, Nat.reduceSub, Nat.reduceMul, cond_true, cond_false, Option.bind_some, List.length_append, List.length_cons, List.length_nil, List.append_assoc, List.cons_append, List.nil_append, List.set_cons_zero, List.set_cons_succ, List.size_toArray, List.all_cons, List.all_nil, List.drop_zero, List.drop_succ_cons, List.take_succ_cons, List.take_zero, List.mem_cons, Prod.mk.injEq, List.not_mem_nil, implies_true, List.getElem?_toArray, List.getElem?_cons_zero, List.getElem?_cons_succ, List.getElem?_nil, Option.getD_some, Option.getD_none, Nat.reduceEqDiff, reduceIte, Nat.reduceAdd, List.map_toArray, List.map_cons, List.map_nil, Bool.false_eq_true, Nat.reduceBEq, Option.map_some, Option.map_none, reduceCtorEq, ix24, ld3, ln24]
  · rintro i tm H' ⟨h0, h1, h7, h8, rfl, hi, hn⟩
    simp -implicitDefEqProofs only [kz, kk0, kk1, kk2, kk3, ↓two_true, ↓two_false, oS_some, oM_some, mkv, aggAt, Nat.reduceLeDiff, Nat.reduceSub, Nat.reduceMul, implies_true, Nat.reduceEqDiff, reduceIte, Nat.reduceAdd, Nat.reduceBEq, reduceCtorEq, ix24, ld3, ln24, h0, h1, h7, h8]
    refine two_intro (fun hc => ?_) (fun hc => ?_)
    · have hc' : i < l.length := by simpa using hc
      obtain ⟨b, o, cs, rfl, rfl, hrd, _, hcell⟩ := gv (by omega)
      simp -implicitDefEqProofs only [kz, kk0, kk1, kk2, kk3, ↓two_true, ↓two_false, oS_some, oM_some, mkv, aggAt, Nat.reduceLeDiff, Nat.reduceSub, Nat.reduceMul, implies_true, Nat.reduceEqDiff, reduceIte, Nat.reduceAdd, Nat.reduceBEq, reduceCtorEq, ix24, ld3, ln24, h0, h1, h7, h8, Int.toNat_natCast, Nat.mul_one, hrd, hcell i hc', Array.empty_append, Array.append_empty, hp, IntWalk.i64_in (↑i + 1) (by omega)]
      refine ⟨⟨by omega, by omega⟩, two_intro (fun h => ?_) (fun h => ?_)⟩
      · rw [idxF_some hc' h hn]
      · refine ⟨i + 1, by omega, by simp, hc', ?_⟩
        intro x hx
        rw [List.take_succ_eq_append_getElem hc'] at hx
        rcases List.mem_append.1 hx with hx | hx
        · exact hn x hx
        · rw [List.mem_singleton.1 hx]; exact h
    · have hc' : ¬ i < l.length := by simpa using hc
      have hil : i = l.length := by omega
      subst hil
      rw [List.take_length] at hn
      rw [idxF_none hn]

set_option maxHeartbeats 4000000 in
theorem containsFuncI_ok {H : AH} {v : Value} {l : List Int} {g : FuncId} {p : Int → Bool} (hv : IntRow H v l) (hl : l.length < 4611686018427387904) (hp : ∀ x (H : AH) (Φ : Value → AH → Prop), CallsA Try.prog g #[.int .i64 x] H Φ = Φ (.bool (p x)) H) :
    CallsA Try.prog 65 #[v, .func (.func g) #[] #[]] H fun r H' => r = .bool (l.any p) ∧ H' = H := by
  have e := fun Φ => (indexFuncI_ok hv hl hp).eq0 (Φ := Φ)
  refine w65 ?_
  unfold k65
  simp -implicitDefEqProofs only [kz, kk0, kk1, kk2, kk3, ↓two_true, ↓two_false, oS_some, oM_some, mkv, aggAt, Nat.reduceLeDiff, Nat.reduceSub, Nat.reduceMul, implies_true, Nat.reduceEqDiff, reduceIte, Nat.reduceAdd, Nat.reduceBEq, reduceCtorEq, e, idxF_any]

theorem arrayOk1_eq {x : Int} {H : AH} {Φ : Value → AH → Prop} : CallsA Try.prog 66 #[.int .i64 x] H Φ = Φ (.bool (!numOk x)) H := by
  have : CallsA Try.prog 66 #[.int .i64 x] H fun r H' => r = .bool (!numOk x) ∧ H' = H := by
    refine w66 ?_
    unfold k66
    simp -implicitDefEqProofs only [kz, kk0, kk1, kk2, kk3, ↓two_true, ↓two_false, oS_some, oM_some, mkv, aggAt, Nat.reduceLeDiff, Nat.reduceSub, Nat.reduceMul, implies_true, Nat.reduceEqDiff, reduceIte, Nat.reduceAdd, Nat.reduceBEq, reduceCtorEq, implNumOk_eq]
  exact this.eq0
set_option maxHeartbeats 4000000 in
theorem implArrayOk_ok {H : AH} {p q : Value} {m l : List Int} (hp : IntRow H p m) (hq : IntRow H q l) (l1 : m.length < 4611686018427387904) (l2 : l.length < 4611686018427387904) :
    CallsA Try.prog 28 #[.agg #[p, q]] H fun r H' => r = .bool (arrOk m l) ∧ ∃ K, H' = H ++ K := by
  have ec := fun (L : AH) Φ => (containsFuncI_ok (H := H ++ L) (l := l) (IntRow.mono hq) l2 (fun x H Φ => arrayOk1_eq)).eq0 (Φ := Φ)
  have es := fun (L : AH) Φ => (implSizeOf_ok (H := H ++ L) (l := m) (IntRow.mono hp) l1).eq0 (Φ := Φ)
  obtain ⟨a, c, rfl, _⟩ := hq.op
  refine w28 ?_
  unfold k28
  simp -implicitDefEqProofs only [kz, kk0, kk1, kk2, kk3, ↓two_true, ↓two_false, oS_some, oM_some, mkv, aggAt, Nat.reduceLeDiff, Nat.reduceSub, Nat.reduceMul, implies_true, Nat.reduceEqDiff, reduceIte, Nat.reduceAdd, Nat.reduceBEq, reduceCtorEq, fa26_0, fa26_1, ld24, ln24, es, ec]
  refine two_intro (fun h => ⟨by rw [any_not, arrOk, h]; simp, _, rfl⟩) (fun h => ⟨by rw [arrOk, h]; rfl, _, rfl⟩)

def varBad (s : Bool) (l m : List Int) : Bool := (s && !arrOk l m) || (!s && decide (((l.length : Int) + m.length) > 0))

set_option maxHeartbeats 4000000 in
theorem varsOk1_ok {H : AH} {s : Bool} {p q : Value} {l m : List Int} (hp : IntRow H p l) (hq : IntRow H q m) (l1 : l.length < 4611686018427387904) (l2 : m.length < 4611686018427387904) :
    CallsA Try.prog 60 #[.agg #[.bool s, p, q]] H fun r H' => r = .bool (varBad s l m) ∧ ∃ K, H' = H ++ K := by
  have ea := fun (L : AH) Φ => (implArrayOk_ok (H := H ++ L) (IntRow.mono hp) (IntRow.mono hq) l1 l2).eqV (Φ := Φ)
  obtain ⟨a, c, rfl, _⟩ := hp.op
  obtain ⟨a', c', rfl, _⟩ := hq.op
  refine w60 ?_
  unfold k60
  simp -implicitDefEqProofs only [kz, kk0, kk1, kk2, kk3, ↓two_true, ↓two_false, oS_some, oM_some, mkv, aggAt, Nat.reduceLeDiff, Nat.reduceSub, Nat.reduceMul, implies_true, Nat.reduceEqDiff, reduceIte, Nat.reduceAdd, Nat.reduceBEq, reduceCtorEq, fa26_0, fa26_1, fa49_0, fa49_1, ld4, ld24, ld26, ln24, ea]
  rw [IntWalk.i64_in (↑l.length + ↑m.length) (by omega)]
  cases s with
  | true =>
    rw [two_true]
    cases h : arrOk l m <;> simp [two, varBad, h]
  | false =>
    rw [two_false]
    simp [two, varBad]

set_option maxHeartbeats 4000000 in
theorem indexFuncV_ok {H : AH} {v : Value} {xs : List VR3} {g : FuncId} {p : VR3 → Bool} (hv : SRow H v 3 (xs.map vcells)) (hl : xs.length < 4611686018427387904)
    (hp : ∀ x ∈ xs, ∀ L : AH, CallsA Try.prog g #[.agg #[.bool x.1, x.2.1, x.2.2]] (H ++ L) fun r H' => r = .bool (p x) ∧ ∃ K, H' = (H ++ L) ++ K) :
    CallsA Try.prog 100 #[v, .func (.func g) #[] #[]] H fun r H' => r = .int .i64 (idxF p xs) ∧ ∃ K, H' = H ++ K := by
  obtain ⟨a, c, rfl, gv⟩ := hv.op
  simp only [List.length_map] at gv ⊢
  refine w100 ?_
  unfold k100
  simp -implicitDefEqProofs only [kz, kk0, kk1, kk2, kk3, ↓two_true, ↓two_false, oS_some, oM_some, mkv, aggAt, Nat.reduceLeDiff, Nat.reduceSub, Nat.reduceMul, implies_true, Nat.reduceEqDiff, reduceIte, Nat.reduceAdd, Nat.reduceBEq, reduceCtorEq, ix35, ld49, ln35]
  refine rW_loop (σ := Nat) (fun i tm H' => tm 0 = .slice a xs.length c ∧ tm 1 = .func (.func g) #[] #[] ∧ tm 7 = .int .i64 xs.length ∧ tm 8 = .int .i64 i ∧ (∃ K, H' = H ++ K) ∧ i ≤ xs.length ∧ ∀ x ∈ xs.take i, p x = false) (fun i => xs.length - i) 0 ?_ ?_
  · simp -implicitDefEqProofs [kk0, kk1, kk2, kk3, rW_block, ↓two_true, ↓two_false, rW_cond, rO_guard, oS_some, oM_some, mkv, aggAt, Nat.reduceLeDiff, Nat.reduceSub, Nat.reduceMul, cond_true, cond_false, Option.bind_some, List.length_append, List.length_cons, List.length_nil, List.append_assoc, List.cons_append, List.nil_append, List.set_cons_zero, List.set_cons_succ, List.size_toArray, List.all_cons, List.all_nil, List.drop_zero, List.drop_succ_cons, List.take_succ_cons, List.take_zero, List.mem_cons, Prod.mk.injEq, List.not_mem_nil, implies_true, List.getElem?_toArray, List.getElem?_cons_zero, List.getElem?_cons_succ, List.getElem?_nil, Option.getD_some, Option.getD_none, Nat.reduceEqDiff, reduceIte, Nat.reduceAdd, List.map_toArray, List.map_cons, List.map_nil, Bool.false_eq_true, Nat.reduceBEq, Option.map_some, Option.map_none, reduceCtorEq, ix35, ld49, ln35]
  · rintro i tm H' ⟨h0, h1, h7, h8, ⟨K, rfl⟩, hi, hn⟩
    simp -implicitDefEqProofs only [kz, kk0, kk1, kk2, kk3, ↓two_true, ↓two_false, oS_some, oM_some, mkv, aggAt, Nat.reduceLeDiff, Nat.reduceSub, Nat.reduceMul, implies_true, Nat.reduceEqDiff, reduceIte, Nat.reduceAdd, Nat.reduceBEq, reduceCtorEq, ix35, ld49, ln35, h0, h1, h7, h8]
    refine two_intro (fun hc => ?_) (fun hc => ?_)
    · have hc' : i < xs.length := by simpa using hc
      obtain ⟨b, o, cs, rfl, rfl, hrd, hle, hcell⟩ := gv (by omega)
      have hx1 : (xs.map vcells)[i]? = some (vcells xs[i]) := by simp [hc']
      have r1 := row_lt (s := 3) hc'
      have g1 : rd (H ++ K) b = some cs := by rw [rdl (by simp [hrd]), hrd]
      have l1 : ld Try.prog 49 (o + i * 3) cs = some (.agg #[.bool xs[i].1, xs[i].2.1, xs[i].2.2]) := by
        rw [ld49]; exact aggAt_row (hcell i _ hx1).1 (by omega) (hcell i _ hx1).2
      have e := fun Φ => (hp xs[i] (List.getElem_mem hc') K).eqV (Φ := Φ)
      simp -implicitDefEqProofs only [kz, kk0, kk1, kk2, kk3, ↓two_true, ↓two_false, oS_some, oM_some, mkv, aggAt, Nat.reduceLeDiff, Nat.reduceSub, Nat.reduceMul, implies_true, Nat.reduceEqDiff, reduceIte, Nat.reduceAdd, Nat.reduceBEq, reduceCtorEq, ix35, ld49, ln35, h0, h1, h7, h8, Int.toNat_natCast, g1, l1, Array.empty_append, Array.append_empty, e, IntWalk.i64_in (↑i + 1) (by omega)]
      refine ⟨⟨by omega, by omega⟩, two_intro (fun h => ?_) (fun h => ?_)⟩
      · exact ⟨by rw [idxF_some hc' h hn], _, rfl⟩
      · refine ⟨i + 1, by omega, by simp, ⟨_, rfl⟩, hc', ?_⟩
        intro x hx
        rw [List.take_succ_eq_append_getElem hc'] at hx
        rcases List.mem_append.1 hx with hx | hx
        · exact hn x hx
        · rw [List.mem_singleton.1 hx]; exact h
    · have hc' : ¬ i < xs.length := by simpa using hc
      have hil : i = xs.length := by omega
      subst hil
      rw [List.take_length] at hn
      exact ⟨by rw [idxF_none hn], _, rfl⟩

set_option maxHeartbeats 4000000 in
theorem containsFuncV_ok {H : AH} {v : Value} {xs : List VR3} {g : FuncId} {p : VR3 → Bool} (hv : SRow H v 3 (xs.map vcells)) (hl : xs.length < 4611686018427387904)
    (hp : ∀ x ∈ xs, ∀ L : AH, CallsA Try.prog g #[.agg #[.bool x.1, x.2.1, x.2.2]] (H ++ L) fun r H' => r = .bool (p x) ∧ ∃ K, H' = (H ++ L) ++ K) :
    CallsA Try.prog 59 #[v, .func (.func g) #[] #[]] H fun r H' => r = .bool (xs.any p) ∧ ∃ K, H' = H ++ K := by
  have e := fun Φ => (indexFuncV_ok hv hl hp).eqV (Φ := Φ)
  refine w59 ?_
  unfold k59
  simp -implicitDefEqProofs only [kz, kk0, kk1, kk2, kk3, ↓two_true, ↓two_false, oS_some, oM_some, mkv, aggAt, Nat.reduceLeDiff, Nat.reduceSub, Nat.reduceMul, implies_true, Nat.reduceEqDiff, reduceIte, Nat.reduceAdd, Nat.reduceBEq, reduceCtorEq, e, idxF_any]
  exact ⟨_, rfl⟩

def varsOk (l : List (Bool × List Int × List Int)) : Bool := ((l.length : Int) == 26) && !(l.any fun x => varBad x.1 x.2.1 x.2.2)
set_option maxHeartbeats 4000000 in
theorem implVarsOk_ok {H : AH} {v : Value} {xs : List VR3} (hv : SRow H v 3 (xs.map vcells)) (hl : xs.length < 4611686018427387904) (hx : ∀ x ∈ xs, OkV H x) :
    CallsA Try.prog 24 #[v] H fun r H' => r = .bool (varsOk (xs.map (vval H))) ∧ ∃ K, H' = H ++ K := by
  have ec := fun Φ => (containsFuncV_ok (g := 60) (p := fun x => varBad x.1 (rowI H x.2.1) (rowI H x.2.2)) hv hl (fun x h L => varsOk1_ok (IntRow.mono (hx x h).1) (IntRow.mono (hx x h).2.1) (hx x h).2.2.1 (hx x h).2.2.2)).eqV (Φ := Φ)
  obtain ⟨a, c, rfl, _⟩ := hv.op
  simp only [List.length_map] at ec ⊢
  have e2 : (xs.map (vval H)).any (fun x => varBad x.1 x.2.1 x.2.2) = xs.any fun x => varBad x.1 (rowI H x.2.1) (rowI H x.2.2) := by
    rw [List.any_map]; rfl
  refine w24 ?_
  unfold k24
  simp -implicitDefEqProofs only [kz, kk0, kk1, kk2, kk3, ↓two_true, ↓two_false, oS_some, oM_some, mkv, aggAt, Nat.reduceLeDiff, Nat.reduceSub, Nat.reduceMul, implies_true, Nat.reduceEqDiff, reduceIte, Nat.reduceAdd, Nat.reduceBEq, reduceCtorEq, ln35, ec]
  unfold varsOk
  rw [List.length_map, e2]
  refine two_intro (fun h => ?_) (fun h => ?_)
  · exact ⟨by rw [h]; rfl, _, rfl⟩
  · exact ⟨by rw [h]; rfl, [], by simp⟩

theorem Rp.slice {P : Program} {H : AH} {k : Nat} {t e : TypeId} {vs : List Value} (hu : P.underlying t = some (.slice e)) (h : Rp P H k t vs) :
    vs = [.slice none 0 0] ∨ ∃ b n cs, vs = [.slice (some ⟨b, 0, none⟩) n (P.cellsOf e)] ∧ H[b]? = some ⟨cs, .ro⟩ ∧ cs.length = n * P.cellsOf e ∧ n ≤ maxLen ∧ ∃ k, ∀ i, i < n → Rp P H k e ((cs.drop (i * P.cellsOf e)).take (P.cellsOf e)) := by
  cases k with
  | zero => exact h.elim
  | succ k =>
    simp only [Rp, hu] at h
    rcases h with h | ⟨b, n, cs, h1, h2, h3, h4, h5⟩
    · exact .inl h
    · exact .inr ⟨b, n, cs, h1, h2, h3, h4, k, h5⟩
theorem rd_ro {H : AH} {b : Nat} {cs : List Value} (h : H[b]? = some ⟨cs, .ro⟩) : rd H b = some cs := by simp [rd, h, rdB]
theorem Rp.ints {P : Program} {H : AH} {k : Nat} {t e : TypeId} {vs : List Value} (hu : P.underlying t = some (.slice e)) (he : P.underlying e = some (.int .i64)) (hc : P.cellsOf e = 1) (h : Rp P H k t vs) :
    ∃ v l, vs = [v] ∧ IntRow H v l ∧ l.length ≤ 9223372036854775807 ∧ ∀ x ∈ l, I64 x := by
  rcases h.slice hu with rfl | ⟨b, n, cs, rfl, h2, h3, h4, k, h5⟩
  · exact ⟨_, [], rfl, .inl ⟨rfl, rfl⟩, by simp, by simp⟩
  · rw [hc, Nat.mul_one] at h3
    have key : ∀ i (hi : i < cs.length), ∃ m, cs[i] = .int .i64 m ∧ I64 m := by
      intro i hi
      have h6 := h5 i (by omega)
      rw [hc, Nat.mul_one] at h6
      obtain ⟨m, h7, h8⟩ := h6.int he
      have h9 : ((cs.drop i).take 1)[0]? = some cs[i] := by
        rw [List.getElem?_take_of_lt (by decide), List.getElem?_drop, Nat.add_zero, List.getElem?_eq_getElem hi]
      rw [h7] at h9
      simp at h9
      exact ⟨m, h9.symm, wf_i64 h8⟩
    have hmap : cs = Go.Proofs.Ytpclegiocblpmaa.AM.ints (cs.map toI) := by
      refine List.ext_getElem (by simp [Go.Proofs.Ytpclegiocblpmaa.AM.ints]) fun i h1 h2 => ?_
      obtain ⟨m, h3, _⟩ := key i h1
      simp [Go.Proofs.Ytpclegiocblpmaa.AM.ints, h3, toI]
    refine ⟨_, cs.map toI, rfl, .inr ⟨b, 0, cs, by simp [h3, hc], rd_ro h2, by simp, ?_⟩, ?_, ?_⟩
    · rw [List.drop_zero, List.length_map, List.take_of_length_le (Nat.le_refl _)]
      exact hmap
    · simp only [List.length_map, h3]
      have : maxLen = 9223372036854775807 := by decide
      omega
    · intro x hx
      obtain ⟨y, hy, rfl⟩ := List.mem_map.1 hx
      obtain ⟨i, hi, rfl⟩ := List.mem_iff_getElem.1 hy
      obtain ⟨m, h6, h7⟩ := key i hi
      rw [h6]; exact h7
theorem Rp.bool {P : Program} {H : AH} {k : Nat} {t : TypeId} {vs : List Value} (hu : P.underlying t = some .bool) (h : Rp P H k t vs) : ∃ b, vs = [.bool b] := by
  cases k with
  | zero => exact h.elim
  | succ k => simpa only [Rp, hu] using h

theorem All2.append {H : AH} : ∀ {ks ks' : List CK} {x x' : List Value}, All2 H ks x → All2 H ks' x' → All2 H (ks ++ ks') (x ++ x')
  | [], _, x, _, h, h' => by cases h; exact h'
  | k :: ks, _, x, _, ⟨y, r, e, h1, h2⟩, h' => by subst e; exact ⟨y, _, rfl, h1, h2.append h'⟩
theorem splice_take_eq {xs x : List Value} {p : Nat} (h : p + x.length ≤ xs.length) : splice xs p x = xs.take p ++ x ++ xs.drop (p + x.length) := by
  refine List.ext_getElem? fun i => ?_
  rw [splice_get x xs p i h]
  have hl : (xs.take p).length = p := by simp; omega
  split
  · rename_i hi
    rw [List.append_assoc, List.getElem?_append_right (by omega), hl, List.getElem?_append_left (by omega)]
  · rename_i hi
    rcases Nat.lt_or_ge i p with h1 | h1
    · rw [List.append_assoc, List.getElem?_append_left (by omega), List.getElem?_take_of_lt h1]
    · rw [List.getElem?_append_right (by simp; omega), List.getElem?_drop]
      congr 1
      simp
      omega
/-- A whole element is written. -/
theorem New.put {H0 H1 H : AH} {ks : List CK} {n b i : Nat} {ys x : List Value} (s : Nat) (hs : ks.length = s) (h : New H0 H1 (.slice (some ⟨b, 0, none⟩) n s) ks n ys) (he : ∃ K, H = H1 ++ K) (hi : i < n) (hx : All2 H ks x) (ho : ∀ y ∈ x, OwnC H y) (hf : ∀ y ∈ x, ∀ b, blkOf y = some b → H1.length ≤ b)
    (hdj : x.Pairwise Dj) (h0 : H0.length ≤ H1.length) :
    ∃ cs, H[b]? = some ⟨cs, .own⟩ ∧ i * s + s ≤ cs.length ∧ New H0 (H.set b ⟨splice cs (0 + i * s) x, .own⟩) (.slice (some ⟨b, 0, none⟩) n s) ks n (splice ys (i * s) x) ∧
      (cvs (H.set b ⟨splice cs (0 + i * s) x, .own⟩) (splice ys (i * s) x)).take ((i + 1) * s) = (cvs H1 ys).take (i * s) ++ x.map (cv H) := by
  subst hs
  have hot := h.ot
  obtain ⟨K, rfl⟩ := he
  have hot2 := h.ot.mono (L := K)
  have hr := row_lt (s := ks.length) hi
  have hxl := hx.len
  have hyl := hot.len
  rcases hot2.row with ⟨h1, _⟩ | ⟨b', o', cs, h1, h2, h3, h4⟩
  · cases h1
  simp only [Value.slice.injEq, Option.some.injEq, Addr.mk.injEq] at h1
  obtain ⟨⟨rfl, rfl, _⟩, _, _⟩ := h1
  have hb1 : b < H1.length := hot.lt b (.inl rfl)
  refine ⟨cs, h2, by omega, ?_, ?_⟩
  all_goals
    have hs2 : ∀ g, g ≠ b → ((H1 ++ K).set b ⟨splice cs (0 + i * ks.length) x, .own⟩)[g]? = (H1 ++ K)[g]? := fun g hg => List.getElem?_set_ne (Ne.symm hg)
    have hget : ∀ (j : Nat) y, (splice ys (i * ks.length) x)[j]? = some y → (i * ks.length ≤ j ∧ j < i * ks.length + ks.length ∧ x[j - i * ks.length]? = some y) ∨ (¬ (i * ks.length ≤ j ∧ j < i * ks.length + ks.length) ∧ ys[j]? = some y) := by
      intro j y hy
      rw [splice_get x ys _ j (by omega), hxl] at hy
      split at hy
      · rename_i hj; exact .inl ⟨hj.1, hj.2, hy⟩
      · rename_i hj; exact .inr ⟨hj, hy⟩
    have hcell : ∀ y, (y ∈ x ∨ y ∈ ys) → ∀ g, blkOf y = some g → ((H1 ++ K).set b ⟨splice cs (0 + i * ks.length) x, .own⟩)[g]? = (H1 ++ K)[g]? := by
      intro y hy g hg
      refine hs2 g ?_
      rintro rfl
      rcases hy with hy | hy
      · have := hf y hy g hg; omega
      · obtain ⟨j, hj⟩ := List.mem_iff_getElem?.1 hy
        exact hot.out j y hj g rfl hg
  · refine ⟨⟨by rw [splice_length]; exact hyl, .inr ⟨b, 0, _, rfl, set_at h2, by rw [splice_length]; omega, ?_⟩, ?_, ?_, ?_, ?_⟩, ?_⟩
    · intro j y hy
      rw [splice_get x cs _ _ (by omega), hxl]
      rcases hget j y hy with ⟨a1, a2, a3⟩ | ⟨a1, a2⟩
      · rw [if_pos (by omega), show 0 + j - (0 + i * ks.length) = j - i * ks.length by omega]; exact a3
      · rw [if_neg (by omega)]; exact h4 j y a2
    · intro i' c k y hi' hk hy
      have hc := (List.getElem?_eq_some_iff.1 hk).1
      rcases hget _ y hy with ⟨a1, a2, a3⟩ | ⟨a1, a2⟩
      · have e : i' = i := by
          rcases Nat.lt_trichotomy i' i with h5 | h5 | h5
          · have := row_lt (s := ks.length) h5; omega
          · exact h5
          · have := row_lt (s := ks.length) h5; omega
        subst e
        rw [Nat.add_sub_cancel_left] at a3
        exact (hx.get c k y hk a3).same fun g hg => get_rd (hcell y (.inl (List.mem_of_getElem? a3)) g hg)
      · exact (hot2.ok i' c k y hi' hk a2).same fun g hg => get_rd (hcell y (.inr (List.mem_of_getElem? a2)) g hg)
    · intro j y hy
      rcases hget j y hy with ⟨a1, a2, a3⟩ | ⟨a1, a2⟩
      · exact (ho y (List.mem_of_getElem? a3)).same (hcell y (.inl (List.mem_of_getElem? a3)))
      · exact (hot2.own j y a2).same (hcell y (.inr (List.mem_of_getElem? a2)))
    · intro j y hy g hg hg2
      simp [blkOf] at hg
      subst hg
      rcases hget j y hy with ⟨a1, a2, a3⟩ | ⟨a1, a2⟩
      · have := hf y (List.mem_of_getElem? a3) b hg2; omega
      · exact hot.out j y a2 b rfl hg2
    · intro j j' y z hjj hy hz
      have cross : ∀ y z, y ∈ x → z ∈ ys → Dj y z := fun y z hy hz g hg hg2 => by
        have := hf y hy g hg; have := hot.lt g (.inr ⟨z, hz, hg2⟩); omega
      rcases hget j y hy with ⟨a1, a2, a3⟩ | ⟨a1, a2⟩ <;> rcases hget j' z hz with ⟨b1, b2, b3⟩ | ⟨b1, b2⟩
      · exact pw_get hdj _ _ y z (by omega) a3 b3
      · exact cross y z (List.mem_of_getElem? a3) (List.mem_of_getElem? b2)
      · exact (cross z y (List.mem_of_getElem? b3) (List.mem_of_getElem? a2)).symm
      · exact hot.dif j j' y z hjj a2 b2
    · rintro g (hg | ⟨y, hy, hg⟩)
      · exact h.fr g (.inl hg)
      · obtain ⟨j, hj⟩ := List.mem_iff_getElem?.1 hy
        rcases hget j y hj with ⟨a1, a2, a3⟩ | ⟨a1, a2⟩
        · have := hf y (List.mem_of_getElem? a3) g hg; omega
        · exact h.fr g (.inr ⟨y, List.mem_of_getElem? a2, hg⟩)
  · have e1 : splice ys (i * ks.length) x = ys.take (i * ks.length) ++ x ++ ys.drop (i * ks.length + x.length) := splice_take_eq (by omega)
    rw [e1]
    unfold cvs
    rw [List.map_append, List.take_append_of_le_length (by simp; rw [Nat.add_mul]; omega), List.take_of_length_le (by simp; rw [Nat.add_mul]; omega), List.map_append, ← List.map_take]
    congr 1
    · refine List.map_congr_left fun y hy => ?_
      have hmem := List.mem_of_mem_take hy
      rw [cv_same fun g hg => get_rd (hcell y (.inr hmem) g hg)]
      obtain ⟨j, hj⟩ := List.mem_iff_getElem?.1 hmem
      obtain ⟨kd, hkd⟩ := hot.frow.cell hj
      exact cv_mono hkd
    · exact List.map_congr_left fun y hy => cv_same fun g hg => get_rd (hcell y (.inl hy) g hg)

inductive Comp where
  | cells (ks : List CK) (xs : List Value)
  | row (v : Value) (ks : List CK) (n : Nat) (xs : List Value)
def Comp.xs : Comp → List Value
  | .cells _ xs => xs
  | .row _ _ _ xs => xs
def Comp.bs : Comp → Nat → Prop
  | .cells _ xs, b => ∃ y ∈ xs, blkOf y = some b
  | .row v _ _ xs, b => blkOf v = some b ∨ ∃ y ∈ xs, blkOf y = some b
def Comp.rd (H : AH) : Comp → Prop
  | .cells ks xs => All2 H ks xs
  | .row v ks n xs => FRow H v ks n xs
def Comp.own (H : AH) : Comp → Prop
  | .cells ks xs => All2 H ks xs ∧ (∀ y ∈ xs, OwnC H y) ∧ xs.Pairwise Dj
  | .row v ks n xs => OT H v ks n xs
theorem All2.rdable {H : AH} {ks : List CK} {xs : List Value} (h : All2 H ks xs) : ∀ b, (∃ y ∈ xs, blkOf y = some b) → (Go.Proofs.Ytpclegiocblpmaa.AM.rd H b).isSome = true := by
  rintro b ⟨y, hy, hb⟩
  obtain ⟨k, hk⟩ := h.mem hy
  exact hk.rdable b hb
theorem All2.same {H H' : AH} {ks : List CK} {xs : List Value} (h : All2 H ks xs) (hs : ∀ b, (∃ y ∈ xs, blkOf y = some b) → Go.Proofs.Ytpclegiocblpmaa.AM.rd H' b = Go.Proofs.Ytpclegiocblpmaa.AM.rd H b) : All2 H' ks xs :=
  All2.of h.len fun c k y hk hy => (h.get c k y hk hy).same fun b hb => hs b ⟨y, List.mem_of_getElem? hy, hb⟩
theorem Comp.own.rd {H : AH} {c : Comp} (h : c.own H) : c.rd H := by
  cases c with
  | cells ks xs => exact h.1
  | row v ks n xs => exact OT.frow h
theorem Comp.rd.able {H : AH} {c : Comp} (h : c.rd H) : ∀ b, c.bs b → (Go.Proofs.Ytpclegiocblpmaa.AM.rd H b).isSome = true := by
  cases c with
  | cells ks xs => exact All2.rdable h
  | row v ks n xs => exact FRow.rdable h
theorem rd_lt {H : AH} {b : Nat} (h : (Go.Proofs.Ytpclegiocblpmaa.AM.rd H b).isSome = true) : b < H.length := by
  rcases Nat.lt_or_ge b H.length with h1 | h1
  · exact h1
  · unfold Go.Proofs.Ytpclegiocblpmaa.AM.rd at h; rw [List.getElem?_eq_none h1] at h; cases h
theorem Comp.rd.same {H H' : AH} {c : Comp} (h : c.rd H) (hs : ∀ b, c.bs b → H'[b]? = H[b]?) : c.rd H' ∧ cvs H' c.xs = cvs H c.xs := by
  cases c with
  | cells ks xs => exact ⟨All2.same h fun b hb => get_rd (hs b hb), FRow.cvs_same fun b hb => get_rd (hs b hb)⟩
  | row v ks n xs => exact ⟨FRow.same h fun b hb => get_rd (hs b hb), FRow.cvs_same fun b hb => get_rd (hs b (.inr hb))⟩
theorem Comp.own.same {H H' : AH} {c : Comp} (h : c.own H) (hs : ∀ b, c.bs b → H'[b]? = H[b]?) : c.own H' := by
  cases c with
  | cells ks xs => exact ⟨(Comp.rd.same (c := .cells ks xs) h.1 hs).1, fun y hy => (h.2.1 y hy).same fun b hb => hs b ⟨y, hy, hb⟩, h.2.2⟩
  | row v ks n xs => exact OT.same h hs
def bsL (l : List Comp) (b : Nat) : Prop := ∃ c ∈ l, c.bs b
def Rd (H : AH) (l : List Comp) : Prop := ∀ c ∈ l, c.rd H
def cdj (c d : Comp) : Prop := ∀ b, c.bs b → ¬ d.bs b
def Own (H : AH) (l : List Comp) : Prop := (∀ c ∈ l, c.own H) ∧ l.Pairwise cdj
def mvs (H : AH) (l : List Comp) : List (List CV) := l.map fun c => cvs H c.xs
theorem Own.rd {H : AH} {l : List Comp} (h : Own H l) : Rd H l := fun c hc => (h.1 c hc).rd
theorem Rd.same {H H' : AH} {l : List Comp} (h : Rd H l) (hs : ∀ b, bsL l b → H'[b]? = H[b]?) : Rd H' l ∧ mvs H' l = mvs H l :=
  ⟨fun c hc => (Comp.rd.same (h c hc) fun b hb => hs b ⟨c, hc, hb⟩).1, List.map_congr_left fun c hc => (Comp.rd.same (h c hc) fun b hb => hs b ⟨c, hc, hb⟩).2⟩
theorem Own.same {H H' : AH} {l : List Comp} (h : Own H l) (hs : ∀ b, bsL l b → H'[b]? = H[b]?) : Own H' l := ⟨fun c hc => (h.1 c hc).same fun b hb => hs b ⟨c, hc, hb⟩, h.2⟩
theorem Rd.lt {H : AH} {l : List Comp} (h : Rd H l) : ∀ b, bsL l b → b < H.length := by
  rintro b ⟨c, hc, hb⟩
  exact rd_lt (Comp.rd.able (h c hc) b hb)
inductive LI where
  | blk (b : Nat) (k : Blk)
  | rd (l : List Comp) (V : List (List CV))
  | own (l : List Comp) (V : List (List CV))
def LI.ok (H : AH) : LI → Prop
  | .blk b k => H[b]? = some k
  | .rd l V => Rd H l ∧ mvs H l = V
  | .own l V => Own H l ∧ mvs H l = V
def LI.bs : LI → Nat → Prop
  | .blk b _, g => g = b
  | .rd l _, g => bsL l g
  | .own l _, g => bsL l g
theorem LI.ok.same {H H' : AH} {x : LI} (h : x.ok H) (hs : ∀ b, x.bs b → H'[b]? = H[b]?) : x.ok H' := by
  cases x with
  | blk b k => show H'[b]? = some k; rw [hs b rfl]; exact h
  | rd l V => obtain ⟨h1, h2⟩ := Rd.same h.1 hs; exact ⟨h1, by rw [h2]; exact h.2⟩
  | own l V => exact ⟨h.1.same hs, by rw [(Rd.same h.1.rd hs).2]; exact h.2⟩
theorem LI.ok.lt {H : AH} {x : LI} (h : x.ok H) : ∀ b, x.bs b → b < H.length := by
  cases x with
  | blk b k => intro g hg; cases hg; exact (List.getElem?_eq_some_iff.1 h).1
  | rd l V => exact Rd.lt h.1
  | own l V => exact Rd.lt h.1.rd
theorem LI.ok.ext {H H' : AH} {x : LI} (h : x.ok H) (he : ∃ K, H' = H ++ K) : x.ok H' := by
  obtain ⟨K, rfl⟩ := he
  exact h.same fun b hb => List.getElem?_append_left (h.lt b hb)
theorem LI.ok.box {H : AH} {cs : List Value} : LI.ok (H ++ [⟨cs, .own⟩]) (.blk H.length ⟨cs, .own⟩) := by
  show (H ++ [⟨cs, .own⟩])[H.length]? = _
  rw [gt0]; rfl
/-- What is alive stands beside the blocks from 'lo' to 'hi'. -/
def LI.off (lo hi : Nat) (x : LI) : Prop := ∀ b, x.bs b → ¬ (lo ≤ b ∧ b < hi)
theorem LI.ok.frame {H H' : AH} {x : LI} {lo hi : Nat} (h : x.ok H) (hf : ∀ b, b < H.length → ¬ (lo ≤ b ∧ b < hi) → H'[b]? = H[b]?) (ho : x.off lo hi) : x.ok H' := h.same fun b hb => hf b (h.lt b hb) (ho b hb)
/-- The blocks of what is alive. -/
def LI.rg (lo hi : Nat) (x : LI) : Prop := ∀ b, x.bs b → lo ≤ b ∧ b < hi
theorem LI.rg.off {x : LI} {lo hi lo' hi' : Nat} (h : x.rg lo hi) (hd : hi ≤ lo' ∨ hi' ≤ lo) : x.off lo' hi' := fun b hb => by have := h b hb; omega
/-- New things. -/
structure NewL (H0 H : AH) (l : List Comp) (V : List (List CV)) : Prop where
  own : Own H l
  fr : ∀ b, bsL l b → H0.length ≤ b
  vals : mvs H l = V
theorem NewL.ok {H0 H : AH} {l : List Comp} {V : List (List CV)} (h : NewL H0 H l V) : LI.ok H (.own l V) ∧ LI.rg H0.length H.length (.own l V) :=
  ⟨⟨h.own, h.vals⟩, fun b hb => ⟨h.fr b hb, h.own.rd.lt b hb⟩⟩
/-- What marking does. -/
structure Marked (H : AH) (l : List Comp) (k : Int) (H' : AH) (l' : List Comp) : Prop where
  own : Own H' l'
  bs : ∀ b, bsL l' b ↔ bsL l b
  len : H.length ≤ H'.length
  frame : ∀ b, b < H.length → ¬ bsL l b → H'[b]? = H[b]?
  vals : (mvs H' l').flatten = markF (mvs H l).flatten k
theorem Marked.ok {H H' : AH} {l l' : List Comp} {V : List (List CV)} {k : Int} {lo hi : Nat} (h : Marked H l k H' l') (hr : LI.rg lo hi (.own l V)) : LI.ok H' (.own l' (mvs H' l')) ∧ (∀ b, b < H.length → ¬ (lo ≤ b ∧ b < hi) → H'[b]? = H[b]?) :=
  ⟨⟨h.own, rfl⟩, fun b hl hb => h.frame b hl fun hb2 => hb (hr b hb2)⟩
theorem LI.ok.rd {H : AH} {l : List Comp} {V : List (List CV)} (h : LI.ok H (.own l V)) : LI.ok H (.rd l V) := ⟨h.1.rd, h.2⟩
theorem LI.row {H : AH} {v : Value} {ks : List CK} {n : Nat} {xs : List Value} {V : List CV} (h : LI.ok H (.rd [.row v ks n xs] [V])) : FRow H v ks n xs ∧ cvs H xs = V := by
  refine ⟨h.1 _ (List.mem_singleton.2 rfl), ?_⟩
  have := h.2
  simpa [mvs, Comp.xs] using this
/-- What a function answers that makes an array and a code. -/
def ARes (H H' : AH) (r : Value) (R : (List Int × List Int) × Int) : Prop :=
  (∃ a c b d, r = .tuple #[.agg #[.slice a R.1.1.length c, .slice b R.1.2.length d], .int .i64 R.2] ∧ AOwn H H' (.agg #[.slice a R.1.1.length c, .slice b R.1.2.length d]) R.1.1 R.1.2 (.slice a R.1.1.length c) (.slice b R.1.2.length d)) ∧ ∃ K, H' = H ++ K
theorem ARes.nil {H H' : AH} {c : Int} (he : ∃ K, H' = H ++ K) : ARes H H' (.tuple #[.agg #[.slice none 0 0, .slice none 0 0], .int .i64 c]) (([], []), c) :=
  ⟨⟨Option.none, 0, Option.none, 0, rfl, ⟨rfl, OwnRow.nil, OwnRow.nil, fun b hb => by simp [blkOf] at hb, fun b hb => by simp [blkOf] at hb, fun b hb => by simp [blkOf] at hb⟩⟩, he⟩
structure Gro (H0 : AH) (bx : List (Nat × Blk)) (o : Nat) (sh : Value) (ss : List Int) (a' : Option Addr) (c' : Nat) (l : List Int) (H : AH) : Prop where
  bs : ∀ x ∈ bx, H[x.1]? = some x.2 ∧ x.1 < o
  out : H[o]? = some ⟨[sh, .slice a' l.length c'], .own⟩
  osh : OwnRow H sh ss
  od : OwnRow H (.slice a' l.length c') l
  nd : ∀ b, blkOf (.slice a' l.length c') = some b → o < b
  ns : ∀ b, blkOf sh = some b → H0.length ≤ b ∧ b < o ∧ ∀ x ∈ bx, x.1 ≠ b
  n0 : H0.length ≤ o
  ext : ∃ K, H = H0 ++ K
theorem Gro.mono {H0 H L : AH} {bx : List (Nat × Blk)} {o : Nat} {sh : Value} {ss : List Int} {a' : Option Addr} {c' : Nat} {l : List Int} (h : Gro H0 bx o sh ss a' c' l H) : Gro H0 bx o sh ss a' c' l (H ++ L) :=
  ⟨fun x hx => ⟨gtl (h.bs x hx).1, (h.bs x hx).2⟩, gtl h.out, h.osh.mono, h.od.mono, h.nd, h.ns, h.n0, app_ext h.ext⟩
theorem Gro.aown {H0 H : AH} {bx : List (Nat × Blk)} {o : Nat} {sh : Value} {ss : List Int} {a' : Option Addr} {c' : Nat} {l : List Int} (h : Gro H0 bx o sh ss a' c' l H) {b : Nat} {k : Blk} (hb : b < o) (hs : blkOf sh ≠ some b) (h0 : H0.length ≤ b) :
    AOwn H0 (H.set b k) (.agg #[sh, .slice a' l.length c']) ss l sh (.slice a' l.length c') ∧ ∃ K, H.set b k = H0 ++ K := by
  refine ⟨⟨rfl, h.osh.set hs, h.od.set fun e => ?_, fun g h1 h2 => ?_, fun g hg => (h.ns g hg).1, fun g hg => ?_⟩, set_ext h.ext h0⟩
  · have := h.nd _ e; omega
  · have := h.nd _ h2; have := h.ns _ h1; omega
  · have := h.nd _ hg; have := h.n0; omega
/-- Bytes that may be read. -/
def BRow (H : AH) (a : Option Addr) (n c : Nat) : Prop := 0 < n → ∃ b o cs, a = some ⟨b, o, none⟩ ∧ c = 1 ∧ H[b]? = some ⟨cs, .ro⟩ ∧ ∀ j, j < n → ∃ v : Int, cs[o + j]? = some (.int .u8 v) ∧ 0 ≤ v ∧ v ≤ 255
/-- A cursor. -/
def Cur (H : AH) (cb : Nat) : Prop := ∃ (a : Option Addr) (n c i : Nat) (h : Int), H[cb]? = some ⟨[.slice a n c, .int .i64 i, .int .i64 h], .own⟩ ∧ i ≤ n ∧ n ≤ 1048576 ∧ BRow H a n c
structure Frm (cb : Nat) (H H' : AH) : Prop where
  len : H.length ≤ H'.length
  keep : ∀ b, b < H.length → b ≠ cb → H'[b]? = H[b]?
  cur : Cur H' cb
theorem BRow.keep {H H' : AH} {a : Option Addr} {n c cb : Nat} (h : BRow H a n c) (hk : ∀ b, b < H.length → b ≠ cb → H'[b]? = H[b]?) (hc : ∀ cs, H[cb]? ≠ some ⟨cs, .ro⟩) : BRow H' a n c := by
  intro hn
  obtain ⟨b, o, cs, h1, h2, h3, h4⟩ := h hn
  refine ⟨b, o, cs, h1, h2, ?_, h4⟩
  rw [hk b (List.getElem?_eq_some_iff.1 h3).1 (by rintro rfl; exact hc cs h3)]
  exact h3
theorem Cur.lt {H : AH} {cb : Nat} (h : Cur H cb) : cb < H.length := by
  obtain ⟨a, n, c, i, h, h1, _⟩ := h
  exact (List.getElem?_eq_some_iff.1 h1).1
theorem Cur.mono {H L : AH} {cb : Nat} (h : Cur H cb) : Cur (H ++ L) cb := by
  obtain ⟨a, n, c, i, x, h1, h2, h3, h4⟩ := h
  refine ⟨a, n, c, i, x, gtl h1, h2, h3, fun hn => ?_⟩
  obtain ⟨b, o, cs, g1, g2, g3, g4⟩ := h4 hn
  exact ⟨b, o, cs, g1, g2, gtl g3, g4⟩
theorem Frm.trans {cb : Nat} {H H1 H2 : AH} (h : Frm cb H H1) (h' : Frm cb H1 H2) : Frm cb H H2 :=
  ⟨Nat.le_trans h.len h'.len, fun b hb hn => by rw [h'.keep b (Nat.lt_of_lt_of_le hb h.len) hn, h.keep b hb hn], h'.cur⟩
theorem Frm.app {cb : Nat} {H H1 L : AH} (h : Frm cb H H1) : Frm cb H (H1 ++ L) :=
  ⟨by have := h.len; simp; omega, fun b hb hn => by rw [List.getElem?_append_left (Nat.lt_of_lt_of_le hb h.len), h.keep b hb hn], h.cur.mono⟩
theorem Frm.own {cb : Nat} {H H1 : AH} {v : Value} {l : List Int} (h : Frm cb H H1) (ho : OwnRow H v l) (hn : blkOf v ≠ some cb) : OwnRow H1 v l :=
  ho.same fun b hb => h.keep b (ho.lt b hb) (by rintro rfl; exact hn hb)
theorem Frm.at {cb : Nat} {H H1 : AH} {b : Nat} {k : Blk} (h : Frm cb H H1) (hb : H[b]? = some k) (hn : b ≠ cb) : H1[b]? = some k := by
  rw [h.keep b (List.getElem?_eq_some_iff.1 hb).1 hn, hb]
theorem Cur.set {H : AH} {cb b : Nat} {k : Blk} (h : Cur H cb) (hb : ∀ cs, H[b]? ≠ some ⟨cs, .ro⟩) (hn : b ≠ cb) : Cur (H.set b k) cb := by
  obtain ⟨a, n, c, i, x, h1, h2, h3, h4⟩ := h
  refine ⟨a, n, c, i, x, by rw [List.getElem?_set_ne hn]; exact h1, h2, h3, fun hn0 => ?_⟩
  obtain ⟨b', o, cs, g1, g2, g3, g4⟩ := h4 hn0
  refine ⟨b', o, cs, g1, g2, ?_, g4⟩
  rw [List.getElem?_set_ne (by rintro rfl; exact hb cs g3)]
  exact g3
/-- A block behind the heap is written. -/
theorem Frm.set {cb b : Nat} {H H1 : AH} {k : Blk} {cs : List Value} (h : Frm cb H H1) (hb : H1[b]? = some ⟨cs, .own⟩) (hl : H.length ≤ b) (hn : b ≠ cb) : Frm cb H (H1.set b k) :=
  ⟨by rw [List.length_set]; exact h.len, fun g hg hgn => by rw [List.getElem?_set_ne (by omega)]; exact h.keep g hg hgn, h.cur.set (fun cs' e => by rw [hb] at e; cases e) hn⟩

theorem tmod_rng {a n : Int} (ha : 0 ≤ a) (hn : 0 < n) : 0 ≤ a.tmod n ∧ a.tmod n < n := by
  rw [Int.tmod_eq_emod_of_nonneg ha]
  exact ⟨Int.emod_nonneg _ (by omega), Int.emod_lt_of_pos _ hn⟩

/-- A row of its own, no older than a heap. -/
structure DR (H0 H : AH) (v : Value) (l : List Int) : Prop where
  own : OwnRow H v l
  fr : ∀ b, blkOf v = some b → H0.length ≤ b
theorem OwnRow.new {H : AH} {l : List Int} : OwnRow (H ++ [⟨ints l, .own⟩]) (.slice (some ⟨H.length, 0, none⟩) l.length 1) l :=
  .inr ⟨H.length, 0, ints l, rfl, by rw [gt0]; rfl, by simp [ints], List.take_of_length_le (by simp [ints])⟩
theorem DR.new {H0 H : AH} {l : List Int} (h : H0.length ≤ H.length) : DR H0 (H ++ [⟨ints l, .own⟩]) (.slice (some ⟨H.length, 0, none⟩) l.length 1) l :=
  ⟨OwnRow.new, fun b hb => by simp [blkOf] at hb; omega⟩
theorem DR.mono {H0 H L : AH} {v : Value} {l : List Int} (h : DR H0 H v l) : DR H0 (H ++ L) v l := ⟨h.own.mono, h.fr⟩
theorem Cur.same {H H' : AH} {cb : Nat} (h : Cur H cb) (h1 : H'[cb]? = H[cb]?) (h2 : ∀ (b : Nat) cs, H[b]? = some (⟨cs, .ro⟩ : Blk) → H'[b]? = some (⟨cs, .ro⟩ : Blk)) : Cur H' cb := by
  obtain ⟨a, n, c, i, x, g1, g2, g3, g4⟩ := h
  refine ⟨a, n, c, i, x, by rw [h1]; exact g1, g2, g3, fun hn => ?_⟩
  obtain ⟨b, o, cs, k1, k2, k3, k4⟩ := g4 hn
  exact ⟨b, o, cs, k1, k2, h2 b cs k3, k4⟩
theorem App.dr {H0 H H' : AH} {v v' : Value} {l m : List Int} (ha : App H v H' v') (ho : OwnRow H' v' m) (h : DR H0 H v l) (hl : H0.length ≤ H.length) : DR H0 H' v' m :=
  ⟨ho, fun b hb => (ha.new b hb).elim (h.fr b) fun h => Nat.le_trans hl h⟩
theorem App.row {H H' : AH} {v v' w : Value} {m : List Int} {H0 : AH} (h : App H v H' v') (hw : DR H0 H w m) (hd : ∀ b, blkOf w = some b → blkOf v ≠ some b) : DR H0 H' w m := ⟨h.own hw.own hd, hw.fr⟩

/-- An array of its own that was drawn. -/
structure DA (H0 H : AH) (p q : Value) (sh dt : List Int) : Prop where
  sh : DR H0 H p sh
  dt : DR H0 H q dt
  dj : Dj p q
theorem DA.mono {H0 H L : AH} {p q : Value} {sh dt : List Int} (h : DA H0 H p q sh dt) : DA H0 (H ++ L) p q sh dt := ⟨h.sh.mono, h.dt.mono, h.dj⟩
/-- An array that grows in a box, while there are draws. -/
structure GroF (cb : Nat) (H0 : AH) (bx : List (Nat × Blk)) (o : Nat) (sh : Value) (ss : List Int) (a' : Option Addr) (c' : Nat) (l : List Int) (H : AH) : Prop where
  bs : ∀ x ∈ bx, H[x.1]? = some x.2 ∧ x.1 < o ∧ x.1 ≠ cb
  out : H[o]? = some ⟨[sh, .slice a' l.length c'], .own⟩
  osh : DR H0 H sh ss
  od : DR H0 H (.slice a' l.length c') l
  nd : ∀ b, blkOf (.slice a' l.length c') = some b → o < b
  ns : ∀ b, blkOf sh = some b → b < o ∧ ∀ x ∈ bx, x.1 ≠ b
  n0 : H0.length ≤ o
  nc : cb < H0.length
  ext : Frm cb H0 H
theorem GroF.mono {cb : Nat} {H0 H L : AH} {bx : List (Nat × Blk)} {o : Nat} {sh : Value} {ss : List Int} {a' : Option Addr} {c' : Nat} {l : List Int} (h : GroF cb H0 bx o sh ss a' c' l H) : GroF cb H0 bx o sh ss a' c' l (H ++ L) :=
  ⟨fun x hx => ⟨gtl (h.bs x hx).1, (h.bs x hx).2⟩, gtl h.out, h.osh.mono, h.od.mono, h.nd, h.ns, h.n0, h.nc, h.ext.app⟩
theorem GroF.da {cb : Nat} {H0 H : AH} {bx : List (Nat × Blk)} {o : Nat} {sh : Value} {ss : List Int} {a' : Option Addr} {c' : Nat} {l : List Int} (h : GroF cb H0 bx o sh ss a' c' l H) {b : Nat} {k : Blk} {cs : List Value} (hb : b < o) (hs : blkOf sh ≠ some b) (h0 : H0.length ≤ b) (hk : H[b]? = some ⟨cs, .own⟩) :
    DA H0 (H.set b k) sh (.slice a' l.length c') ss l ∧ Frm cb H0 (H.set b k) := by
  have hnc := h.nc
  refine ⟨⟨⟨h.osh.own.set hs, h.osh.fr⟩, ⟨h.od.own.set fun e => ?_, h.od.fr⟩, fun g h1 h2 => ?_⟩, h.ext.set hk h0 (by omega)⟩
  · have := h.nd _ e; omega
  · have := h.nd _ h2; have := h.ns _ h1; omega

theorem DR.set {H0 H : AH} {v : Value} {l : List Int} {b : Nat} {k : Blk} (h : DR H0 H v l) (hb : blkOf v ≠ some b) : DR H0 (H.set b k) v l := ⟨h.own.set hb, h.fr⟩
theorem DA.set {H0 H : AH} {p q : Value} {sh dt : List Int} {b : Nat} {k : Blk} (h : DA H0 H p q sh dt) (h1 : blkOf p ≠ some b) (h2 : blkOf q ≠ some b) : DA H0 (H.set b k) p q sh dt := ⟨h.sh.set h1, h.dt.set h2, h.dj⟩
theorem DR.lt {H0 H : AH} {v : Value} {l : List Int} (h : DR H0 H v l) : ∀ b, blkOf v = some b → b < H.length := h.own.lt
inductive It where
  | box (o : Nat) (cs : List Value)
  | row (v : Value) (l : List Int)
  | cmp (x : Comp) (V : List CV)
def It.ok (H : AH) : It → Prop
  | .box o cs => H[o]? = some ⟨cs, .own⟩
  | .row v l => OwnRow H v l
  | .cmp x V => x.own H ∧ cvs H x.xs = V
def It.bs : It → Nat → Prop
  | .box o _, b => b = o
  | .row v _, b => blkOf v = some b
  | .cmp x _, b => x.bs b
theorem It.ok.same {H H' : AH} {x : It} (h : x.ok H) (hs : ∀ b, x.bs b → H'[b]? = H[b]?) : x.ok H' := by
  cases x with
  | box o cs => show H'[o]? = _; rw [hs o rfl]; exact h
  | row v l => exact OwnRow.same h hs
  | cmp x V => exact ⟨h.1.same hs, by rw [(Comp.rd.same h.1.rd hs).2]; exact h.2⟩
theorem OwnC.ownb {H : AH} {y : Value} (h : OwnC H y) : ∀ b, blkOf y = some b → ∃ cs, H[b]? = some (⟨cs, .own⟩ : Blk) := by
  intro b hb
  rcases h with ⟨n, rfl⟩ | ⟨n, rfl⟩ | ⟨e, _⟩ | ⟨b', o, cs, e, h2, _⟩
  · simp [blkOf] at hb
  · simp [blkOf] at hb
  · rw [e] at hb; simp [blkOf] at hb
  · rw [e] at hb; simp [blkOf] at hb; subst hb; exact ⟨cs, h2⟩
theorem It.ok.ownb {H : AH} {x : It} (h : x.ok H) : ∀ b, x.bs b → ∃ cs, H[b]? = some (⟨cs, .own⟩ : Blk) := by
  intro b hb
  cases x with
  | box o cs => cases hb; exact ⟨cs, h⟩
  | row v l =>
    rcases h with ⟨e, _⟩ | ⟨b', o, cs, e, h2, _⟩
    · rw [e] at hb; simp [It.bs, blkOf] at hb
    · rw [e] at hb; simp [It.bs, blkOf] at hb; subst hb; exact ⟨cs, h2⟩
  | cmp x V =>
    obtain ⟨h, _⟩ := h
    cases x with
    | cells ks xs =>
      obtain ⟨y, hy, e⟩ := hb
      exact (h.2.1 y hy).ownb b e
    | row v ks n xs =>
      rcases hb with hb | ⟨y, hy, e⟩
      · rcases (show OT H v ks n xs from h).row with ⟨h1, _⟩ | ⟨b', o, cs, h1, h2, h3⟩
        · rw [h1] at hb; simp [blkOf] at hb
        · rw [h1] at hb; simp [blkOf] at hb; subst hb; exact ⟨cs, h2⟩
      · obtain ⟨j, hj⟩ := List.mem_iff_getElem?.1 hy
        exact ((show OT H v ks n xs from h).own j y hj).ownb b e
theorem It.ok.lt {H : AH} {x : It} (h : x.ok H) : ∀ b, x.bs b → b < H.length := fun b hb => by
  obtain ⟨cs, h⟩ := h.ownb b hb
  exact (List.getElem?_eq_some_iff.1 h).1
/-- What a function holds: each by itself, none older than the call; a cursor may be there too. -/
structure LD (c : Option Nat) (H0 H : AH) (L : List It) : Prop where
  ok : ∀ (i : Nat) x, L[i]? = some x → x.ok H
  fr : ∀ (i : Nat) x, L[i]? = some x → ∀ b, x.bs b → H0.length ≤ b
  dj : ∀ (i j : Nat) x y, i ≠ j → L[i]? = some x → L[j]? = some y → ∀ b, x.bs b → ¬ y.bs b
  len : H0.length ≤ H.length
  keep : ∀ b, b < H0.length → c ≠ some b → H[b]? = H0[b]?
  cur : ∀ cb, c = some cb → Cur H cb
  nc : ∀ cb, c = some cb → ∀ (i : Nat) x, L[i]? = some x → ¬ x.bs cb
theorem LD.ext {H0 H : AH} {L : List It} (h : LD none H0 H L) : ∃ K, H = H0 ++ K := ext_of h.len fun b hb => h.keep b hb (by simp)
theorem LD.nil {H : AH} : LD none H H [] := ⟨fun i x h => by simp at h, fun i x h => by simp at h, fun i j x y _ h => by simp at h, Nat.le_refl _, fun _ _ _ => rfl, fun _ h => by simp at h, fun _ h => by simp at h⟩
/-- Something new comes. -/
theorem LD.add {c : Option Nat} {H0 H H' : AH} {L : List It} {x : It} (h : LD c H0 H L) (hl : H.length ≤ H'.length) (hk : ∀ b, b < H.length → c ≠ some b → H'[b]? = H[b]?) (hc : ∀ cb, c = some cb → Cur H' cb) (hx : x.ok H') (hb : ∀ b, x.bs b → H.length ≤ b) : LD c H0 H' (x :: L) := by
  have same : ∀ (i : Nat) y, L[i]? = some y → y.ok H' := fun i y hy => (h.ok i y hy).same fun b hb => hk b ((h.ok i y hy).lt b hb) fun e => h.nc b e i y hy hb
  refine ⟨?_, ?_, ?_, Nat.le_trans h.len hl, fun b hb hn => ?_, hc, fun cb e => ?_⟩
  · rintro (_ | i) y hy
    · cases hy; exact hx
    · exact same i y hy
  · rintro (_ | i) y hy b hb2
    · cases hy; exact Nat.le_trans h.len (hb b hb2)
    · exact h.fr i y hy b hb2
  · rintro (_ | i) (_ | j) y z hne hy hz b h1 h2
    · exact hne rfl
    · cases hy; have := hb b h1; have := (h.ok j z hz).lt b h2; omega
    · cases hz; have := hb b h2; have := (h.ok i y hy).lt b h1; omega
    · exact h.dj i j y z (by omega) hy hz b h1 h2
  · rw [hk b (Nat.lt_of_lt_of_le hb h.len) hn, h.keep b hb hn]
  · rintro (_ | i) y hy h2
    · cases hy; have := hb cb h2; have := (h.cur cb e).lt; omega
    · exact h.nc cb e i y hy h2
theorem LD.tail {c : Option Nat} {H0 H : AH} {L : List It} {x : It} (h : LD c H0 H (x :: L)) : LD c H0 H L :=
  ⟨fun i y hy => h.ok (i + 1) y hy, fun i y hy => h.fr (i + 1) y hy, fun i j y z hne hy hz => h.dj (i + 1) (j + 1) y z (by omega) hy hz, h.len, h.keep, h.cur, fun cb e i y hy => h.nc cb e (i + 1) y hy⟩
theorem LD.call {cb : Nat} {H0 H H' : AH} {L : List It} (h : LD (some cb) H0 H L) (hf : Frm cb H H') : LD (some cb) H0 H' L :=
  (h.add (x := .row (.slice none 0 0) []) hf.len (fun b hb hn => hf.keep b hb (by simpa using Ne.symm hn)) (fun g e => by cases e; exact hf.cur) OwnRow.nil fun b hb => by simp [It.bs, blkOf] at hb).tail
theorem LD.extd {c : Option Nat} {H0 H H' : AH} {L : List It} (h : LD c H0 H L) (hf : ∃ K, H' = H ++ K) : LD c H0 H' L := by
  obtain ⟨K, rfl⟩ := hf
  exact (h.add (x := .row (.slice none 0 0) []) (by simp) (fun b hb _ => List.getElem?_append_left hb) (fun g e => (h.cur g e).mono) OwnRow.nil fun b hb => by simp [It.bs, blkOf] at hb).tail
theorem LD.box {c : Option Nat} {H0 H : AH} {L : List It} (h : LD c H0 H L) (cs : List Value) : LD c H0 (H ++ [⟨cs, .own⟩]) (.box H.length cs :: L) :=
  h.add (by simp) (fun b hb _ => List.getElem?_append_left hb) (fun g e => (h.cur g e).mono) (by show (H ++ [⟨cs, .own⟩])[H.length]? = _; rw [gt0]; rfl) fun b hb => by cases hb; exact Nat.le_refl _
/-- A row that a call that draws has made. -/
theorem LD.dr {cb : Nat} {H0 H H' : AH} {L : List It} {v : Value} {l : List Int} (h : LD (some cb) H0 H L) (hv : DR H H' v l) (hf : Frm cb H H') : LD (some cb) H0 H' (.row v l :: L) :=
  h.add hf.len (fun b hb hn => hf.keep b hb (by simpa using Ne.symm hn)) (fun g e => by cases e; exact hf.cur) hv.own hv.fr
theorem LD.nrow {c : Option Nat} {H0 H H' : AH} {L : List It} {v : Value} {l : List Int} (h : LD c H0 H L) (hv : DR H H' v l) (hf : ∃ K, H' = H ++ K) : LD c H0 H' (.row v l :: L) := by
  obtain ⟨K, rfl⟩ := hf
  exact h.add (by simp) (fun b hb _ => List.getElem?_append_left hb) (fun g e => (h.cur g e).mono) hv.own hv.fr
theorem LD.nrow2 {c : Option Nat} {H0 H H' : AH} {L : List It} {v w : Value} {l m : List Int} (h : LD c H0 H L) (hv : DR H H' v l) (hw : DR H H' w m) (hd : Dj v w) (hf : ∃ K, H' = H ++ K) : LD c H0 H' (.row v l :: .row w m :: L) := by
  have h1 := h.nrow hv hf
  have h2 := h.nrow hw hf
  refine ⟨?_, ?_, ?_, h1.len, h1.keep, h1.cur, fun cb e => ?_⟩
  · rintro (_ | i) y hy
    · cases hy; exact hv.own
    · exact h2.ok i y hy
  · rintro (_ | i) y hy b hb
    · cases hy; exact h1.fr 0 _ rfl b hb
    · exact h2.fr i y hy b hb
  · rintro (_ | _ | i) (_ | _ | j) y z hne hy hz b e1 e2
    · exact hne rfl
    · cases hy; cases hz; exact hd b e1 e2
    · exact h1.dj 0 (j + 1) y z (by omega) hy hz b e1 e2
    · cases hy; cases hz; exact hd b e2 e1
    · exact hne rfl
    · exact h2.dj 0 (j + 1) y z (by omega) hy hz b e1 e2
    · exact h1.dj (i + 1) 0 y z (by omega) hy hz b e1 e2
    · exact h2.dj (i + 1) 0 y z (by omega) hy hz b e1 e2
    · exact h1.dj (i + 1) (j + 1) y z (by omega) hy hz b e1 e2
  · rintro (_ | i) y hy
    · cases hy; exact h1.nc cb e 0 _ rfl
    · exact h2.nc cb e i y hy
theorem LD.aown {c : Option Nat} {H0 H H' : AH} {L : List It} {p q v : Value} {sh dt : List Int} (h : LD c H0 H L) (ha : AOwn H H' v sh dt p q) (hf : ∃ K, H' = H ++ K) : LD c H0 H' (.row p sh :: .row q dt :: L) :=
  h.nrow2 ⟨ha.sh, ha.n1⟩ ⟨ha.dt, ha.n2⟩ ha.dj hf
theorem LD.da {cb : Nat} {H0 H H' : AH} {L : List It} {p q : Value} {sh dt : List Int} (h : LD (some cb) H0 H L) (ha : DA H H' p q sh dt) (hf : Frm cb H H') : LD (some cb) H0 H' (.row p sh :: .row q dt :: L) := by
  have h1 := h.dr ha.sh hf
  have h2 := h.dr ha.dt hf
  have := (h.call hf)
  refine ⟨?_, ?_, ?_, h1.len, h1.keep, h1.cur, fun cb e => ?_⟩
  · rintro (_ | i) y hy
    · cases hy; exact ha.sh.own
    · exact h2.ok i y hy
  · rintro (_ | i) y hy b hb
    · cases hy; exact h1.fr 0 _ rfl b hb
    · exact h2.fr i y hy b hb
  · rintro (_ | _ | i) (_ | _ | j) y z hne hy hz b e1 e2
    · exact hne rfl
    · cases hy; cases hz; exact ha.dj b e1 e2
    · exact h1.dj 0 (j + 1) y z (by omega) hy hz b e1 e2
    · cases hy; cases hz; exact ha.dj b e2 e1
    · exact hne rfl
    · exact h2.dj 0 (j + 1) y z (by omega) hy hz b e1 e2
    · exact h1.dj (i + 1) 0 y z (by omega) hy hz b e1 e2
    · exact h2.dj (i + 1) 0 y z (by omega) hy hz b e1 e2
    · exact h1.dj (i + 1) (j + 1) y z (by omega) hy hz b e1 e2
  · rintro (_ | i) y hy
    · cases hy; exact h1.nc cb e 0 _ rfl
    · exact h2.nc cb e i y hy
theorem LD.rd {c : Option Nat} {H0 H : AH} {L : List It} {o : Nat} {cs : List Value} (h : LD c H0 H L) (i : Nat) (hi : L[i]? = some (.box o cs)) : rd H o = some cs ∧ wrt H o = some cs :=
  ⟨rd_own (h.ok i _ hi), wrt_own (h.ok i _ hi)⟩
theorem LD.own {c : Option Nat} {H0 H : AH} {L : List It} {v : Value} {l : List Int} (h : LD c H0 H L) (i : Nat) (hi : L[i]? = some (.row v l)) : OwnRow H v l := h.ok i _ hi
/-- One thing is turned. -/
theorem LD.upd {c : Option Nat} {H0 H H' : AH} {L : List It} {x x' : It} (h : LD c H0 H L) (i : Nat) (hi : L[i]? = some x) (hl : H.length ≤ H'.length) (hk : ∀ b, b < H.length → ¬ x.bs b → H'[b]? = H[b]?) (hx : x'.ok H') (hb : ∀ b, x'.bs b → x.bs b ∨ H.length ≤ b) : LD c H0 H' (L.set i x') := by
  have hil := (List.getElem?_eq_some_iff.1 hi).1
  have get : ∀ (j : Nat) y, (L.set i x')[j]? = some y → (j = i ∧ y = x') ∨ (j ≠ i ∧ L[j]? = some y) := fun j y hy => by
    rcases Nat.decEq i j with e | e
    · rw [List.getElem?_set_ne e] at hy; exact .inr ⟨Ne.symm e, hy⟩
    · subst e; rw [List.getElem?_set_self hil] at hy; cases hy; exact .inl ⟨rfl, rfl⟩
  refine ⟨fun j y hy => ?_, fun j y hy b hb2 => ?_, fun j k y z hne hy hz b e1 e2 => ?_, Nat.le_trans h.len hl, fun b hb2 hn => ?_, fun cb e => ?_, fun cb e j y hy h2 => ?_⟩
  · rcases get j y hy with ⟨rfl, rfl⟩ | ⟨hne, hy⟩
    · exact hx
    · exact (h.ok j y hy).same fun b hb2 => hk b ((h.ok j y hy).lt b hb2) (h.dj j i y x hne hy hi b hb2)
  · rcases get j y hy with ⟨rfl, rfl⟩ | ⟨hne, hy⟩
    · exact (hb b hb2).elim (h.fr j x hi b) fun h2 => Nat.le_trans h.len h2
    · exact h.fr j y hy b hb2
  · rcases get j y hy with ⟨rfl, rfl⟩ | ⟨hne1, hy'⟩
    · rcases get k z hz with ⟨rfl, rfl⟩ | ⟨hne2, hz⟩
      · exact hne rfl
      · exact (hb b e1).elim (fun e1 => h.dj j k x z hne hi hz b e1 e2) fun e1 => by have := (h.ok k z hz).lt b e2; omega
    · rcases get k z hz with ⟨rfl, rfl⟩ | ⟨hne2, hz⟩
      · exact (hb b e2).elim (fun e2 => h.dj j k y x hne hy' hi b e1 e2) fun e2 => by have := (h.ok j y hy').lt b e1; omega
      · exact h.dj j k y z hne hy' hz b e1 e2
  · rw [hk b (Nat.lt_of_lt_of_le hb2 h.len) fun e => by have := h.fr i x hi b e; omega, h.keep b hb2 hn]
  · have h2 := h.cur cb e
    refine h2.same (hk cb h2.lt (h.nc cb e i x hi)) fun b cs hb2 => ?_
    rw [hk b (List.getElem?_eq_some_iff.1 hb2).1 fun e => ?_]
    · exact hb2
    · obtain ⟨cs', h3⟩ := (h.ok i x hi).ownb b e
      rw [hb2] at h3; cases h3
  · rcases get j y hy with ⟨rfl, rfl⟩ | ⟨hne1, hy'⟩
    · exact (hb cb h2).elim (h.nc cb e j x hi) fun h3 => by have := (h.cur cb e).lt; omega
    · exact h.nc cb e j y hy' h2
theorem LD.cursor {H0 H H' : AH} {L : List It} {cb : Nat} (h : LD none H0 H L) (hf : ∃ K, H' = H ++ K) (hc : Cur H' cb) (hb : H.length ≤ cb) : LD (some cb) H0 H' L := by
  have h1 := h.extd hf
  exact ⟨h1.ok, h1.fr, h1.dj, h1.len, fun b hb _ => h1.keep b hb (by simp), fun g e => by cases e; exact hc, fun g e i x hx h2 => by cases e; have := (h.ok i x hx).lt _ h2; omega⟩
theorem LD.out {H0 H : AH} {L : List It} {cb : Nat} (h : LD (some cb) H0 H L) (hb : H0.length ≤ cb) : LD none H0 H L :=
  ⟨h.ok, h.fr, h.dj, h.len, fun b hb2 _ => h.keep b hb2 (by simp; omega), fun _ e => by simp at e, fun _ e => by simp at e⟩
theorem LD.set {c : Option Nat} {H0 H : AH} {L : List It} {o : Nat} {cs : List Value} (h : LD c H0 H L) (i : Nat) (hi : L[i]? = some (.box o cs)) (cs' : List Value) : LD c H0 (H.set o ⟨cs', .own⟩) (L.set i (.box o cs')) :=
  h.upd i hi (by simp) (fun b hb hn => List.getElem?_set_ne (fun e => hn e.symm)) (set_at (h.ok i _ hi)) fun b hb => .inl hb
theorem LD.cells {c : Option Nat} {H0 H : AH} {L : List It} {v : Value} {l : List Int} (h : LD c H0 H L) (i : Nat) (hi : L[i]? = some (.row v l)) (hk : 0 < l.length) :
    ∃ b o cs, v = .slice (some ⟨b, o, none⟩) l.length 1 ∧ Go.Proofs.Ytpclegiocblpmaa.AM.rd H b = some cs ∧ ∀ (i : Nat) x, l[i]? = some x → cs[o + i]? = some (.int .i64 x) := by
  obtain ⟨b, o, cs, rfl, h1, h2, h3⟩ := (h.own i hi).blk hk
  exact ⟨b, o, cs, rfl, rd_own h1, h3⟩

/-- The bytes of a draw. -/
def BRv (H : AH) (v : Value) : Prop := ∃ a n c, v = .slice a n c ∧ n ≤ 1048576 ∧ BRow H a n c
theorem BRow.mono {H L : AH} {a : Option Addr} {n c : Nat} (h : BRow H a n c) : BRow (H ++ L) a n c := fun hn => by
  obtain ⟨b, o, cs, h1, h2, h3, h4⟩ := h hn
  exact ⟨b, o, cs, h1, h2, gtl h3, h4⟩
theorem BRv.ext {H H' : AH} {v : Value} (h : BRv H v) (he : ∃ K, H' = H ++ K) : BRv H' v := by
  obtain ⟨K, rfl⟩ := he
  obtain ⟨a, n, c, h1, h2, h3⟩ := h
  exact ⟨a, n, c, h1, h2, h3.mono⟩
/-- An array that may be read. -/
structure AR (H : AH) (p q : Value) (sh dt : List Int) : Prop where
  os : IntRow H p sh
  od : IntRow H q dt
  l1 : sh.length ≤ 1048576
  l2 : dt.length ≤ 1048576
theorem AR.ext {H H' : AH} {p q : Value} {sh dt : List Int} (h : AR H p q sh dt) (he : ∃ K, H' = H ++ K) : AR H' p q sh dt := ⟨h.os.ext he, h.od.ext he, h.l1, h.l2⟩
theorem AR.mono {H L : AH} {p q : Value} {sh dt : List Int} (h : AR H p q sh dt) : AR (H ++ L) p q sh dt := h.ext ⟨_, rfl⟩
theorem LD.of {c : Option Nat} {H0 H : AH} {L L' : List It} (h : LD c H0 H L) (e : L = L') : LD c H0 H L' := by rw [← e]; exact h

theorem big_eq {a : Option Addr} {n c : Nat} {H : AH} {Φ : Value → AH → Prop} : CallsA Try.prog 7 #[.slice a n c] H Φ = Φ (.bool (decide (1048576 < (n : Int)))) H := by
  have : CallsA Try.prog 7 #[.slice a n c] H fun r H' => r = .bool (decide (1048576 < (n : Int))) ∧ H' = H := by
    refine w7 ?_
    unfold k7
    simp -implicitDefEqProofs [kk0, kk1, kk2, kk3, rW_block, ↓two_true, ↓two_false, rW_cond, rO_guard, oS_some, oM_some, mkv, aggAt, Nat.reduceLeDiff, Nat.reduceSub, Nat.reduceMul, cond_true, cond_false, Option.bind_some, List.length_append, List.length_cons, List.length_nil, List.append_assoc, List.cons_append, List.nil_append, List.set_cons_zero, List.set_cons_succ, List.size_toArray, List.all_cons, List.all_nil, List.drop_zero, List.drop_succ_cons, List.take_succ_cons, List.take_zero, List.mem_cons, Prod.mk.injEq, List.not_mem_nil, implies_true, List.getElem?_toArray, List.getElem?_cons_zero, List.getElem?_cons_succ, List.getElem?_nil, Option.getD_some, Option.getD_none, Nat.reduceEqDiff, reduceIte, Nat.reduceAdd, List.map_toArray, List.map_cons, List.map_nil, Bool.false_eq_true, Nat.reduceBEq, Option.map_some, Option.map_none, reduceCtorEq, ln22]
  exact this.eq0

def Ans1 (H H' : AH) (r : Value) (R : (List Int × List Int) × Int) : Prop := ∃ p q, r = .tuple #[.agg #[p, q], .int .i64 R.2] ∧ LD none H H' [.row p R.1.1, .row q R.1.2]
theorem ARes.ld {H H' : AH} {r : Value} {R : (List Int × List Int) × Int} (h : ARes H H' r R) : Ans1 H H' r R := by
  obtain ⟨⟨a, c, b, d, rfl, h⟩, he⟩ := h
  exact ⟨_, _, rfl, LD.nil.aown h he⟩
theorem AR.o1 {H : AH} {p q : Value} {sh dt : List Int} (h : AR H p q sh dt) : ∃ a c b d, p = .slice a sh.length c ∧ q = .slice b dt.length d := by
  obtain ⟨a, c, e, _⟩ := h.os.op
  obtain ⟨b, d, e', _⟩ := h.od.op
  exact ⟨a, c, b, d, e, e'⟩
/-- The cells of a row that may be read. -/
theorem IntRow.cells {H : AH} {a : Option Addr} {n c : Nat} {l : List Int} (h : IntRow H (.slice a n c) l) {i : Nat} (hi : i < l.length) : n = l.length ∧ ∃ b o cs, a = some ⟨b, o, none⟩ ∧ c = 1 ∧ rd H b = some cs ∧ cs[o + i]? = some (.int .i64 l[i]) := by
  obtain ⟨a', c', e, g⟩ := h.op
  injection e with e1 e2 e3
  subst e1; subst e2; subst e3
  obtain ⟨b, o, cs, g1, g2, g3, g4, g5⟩ := g (by omega)
  exact ⟨rfl, b, o, cs, g1, g2, g3, g5 i hi⟩
/-- A table whose cells lie in what is never turned; its own block is the function's. -/
structure TabOk (B : Nat → Prop) (H : AH) (v : Value) (ks : List CK) (n : Nat) (xs : List Value) : Prop where
  len : xs.length = n * ks.length
  row : (v = .slice none 0 0 ∧ n = 0) ∨ ∃ b o cs, v = .slice (some ⟨b, o, none⟩) n ks.length ∧ H[b]? = some ⟨cs, .own⟩ ∧ o + n * ks.length ≤ cs.length ∧ ∀ (j : Nat) y, xs[j]? = some y → cs[o + j]? = some y
  cell : ∀ (i c : Nat) k y, i < n → ks[c]? = some k → xs[i * ks.length + c]? = some y → KOk H k y
  base : ∀ y ∈ xs, ∀ b, blkOf y = some b → B b
theorem TabOk.frow {B : Nat → Prop} {H : AH} {v : Value} {ks : List CK} {n : Nat} {xs : List Value} (h : TabOk B H v ks n xs) : FRow H v ks n xs := by
  refine ⟨h.len, ?_, h.cell⟩
  rcases h.row with h1 | ⟨b, o, cs, h1, h2, h3⟩
  · exact .inl h1
  · exact .inr ⟨b, o, cs, h1, rd_own h2, h3⟩
theorem TabOk.same {B B' : Nat → Prop} {H H' : AH} {v : Value} {ks : List CK} {n : Nat} {xs : List Value} (h : TabOk B H v ks n xs) (hv : ∀ b, blkOf v = some b → H'[b]? = H[b]?) (hB : ∀ b, B b → H'[b]? = H[b]?) (hBB : ∀ b, B b → B' b) : TabOk B' H' v ks n xs := by
  refine ⟨h.len, ?_, fun i c k y hi hk hy => (h.cell i c k y hi hk hy).same fun b hb => get_rd (hB b (h.base y (List.mem_of_getElem? hy) b hb)), fun y hy b hb => hBB b (h.base y hy b hb)⟩
  rcases h.row with h1 | ⟨b, o, cs, h1, h2, h3⟩
  · exact .inl h1
  · exact .inr ⟨b, o, cs, h1, by rw [hv b (by rw [h1]; rfl)]; exact h2, h3⟩
theorem TabOk.vals {B : Nat → Prop} {H H' : AH} {v : Value} {ks : List CK} {n : Nat} {xs : List Value} (h : TabOk B H v ks n xs) (hB : ∀ b, B b → H'[b]? = H[b]?) : cvs H' xs = cvs H xs :=
  FRow.cvs_same fun b ⟨y, hy, hb⟩ => get_rd (hB b (h.base y hy b hb))
/-- A table that is only read. -/
structure FTab (B : Nat → Prop) (H : AH) (v : Value) (ks : List CK) (n : Nat) (xs : List Value) : Prop where
  fr : FRow H v ks n xs
  base : ∀ b, (blkOf v = some b ∨ ∃ y ∈ xs, blkOf y = some b) → B b
inductive Ix where
  | own (x : It)
  | tab (v : Value) (ks : List CK) (n : Nat) (xs : List Value) (V : List CV)
  | fro (v : Value) (l : List Int)
  | ftab (v : Value) (ks : List CK) (n : Nat) (xs : List Value) (V : List CV)
def Ix.ok (B : Nat → Prop) (H : AH) : Ix → Prop
  | .own x => x.ok H
  | .tab v ks n xs V => TabOk B H v ks n xs ∧ cvs H xs = V
  | .fro v l => IntRow H v l ∧ ∀ b, blkOf v = some b → B b
  | .ftab v ks n xs V => FTab B H v ks n xs ∧ cvs H xs = V
def Ix.bs : Ix → Nat → Prop
  | .own x, b => x.bs b
  | .tab v _ _ _ _, b => blkOf v = some b
  | .fro _ _, _ => False
  | .ftab _ _ _ _ _, _ => False
theorem Ix.ok.same {B B' : Nat → Prop} {H H' : AH} {x : Ix} (h : x.ok B H) (hs : ∀ b, x.bs b → H'[b]? = H[b]?) (hB : ∀ b, B b → H'[b]? = H[b]?) (hBB : ∀ b, B b → B' b) : x.ok B' H' := by
  cases x with
  | own x => exact It.ok.same h hs
  | tab v ks n xs V => exact ⟨h.1.same hs hB hBB, (h.1.vals hB).trans h.2⟩
  | fro v l => exact ⟨h.1.same fun b o n c e => get_rd (hB b (h.2 b (by rw [e]; rfl))), fun b hb => hBB b (h.2 b hb)⟩
  | ftab v ks n xs V => exact ⟨⟨h.1.fr.same fun b hb => get_rd (hB b (h.1.base b hb)), fun b hb => hBB b (h.1.base b hb)⟩, (FRow.cvs_same fun b hb => get_rd (hB b (h.1.base b (.inr hb)))).trans h.2⟩
theorem Ix.ok.ownb {B : Nat → Prop} {H : AH} {x : Ix} (h : x.ok B H) : ∀ b, x.bs b → ∃ cs, H[b]? = some (⟨cs, .own⟩ : Blk) := by
  intro b hb
  cases x with
  | own x => exact It.ok.ownb h b hb
  | tab v ks n xs V =>
    rcases h.1.row with ⟨e, _⟩ | ⟨b', o, cs, e, h2, _⟩
    · rw [e] at hb; simp [Ix.bs, blkOf] at hb
    · rw [e] at hb; simp [Ix.bs, blkOf] at hb; subst hb; exact ⟨cs, h2⟩
  | fro v l => exact hb.elim
  | ftab v ks n xs V => exact hb.elim
theorem Ix.ok.lt {B : Nat → Prop} {H : AH} {x : Ix} (h : x.ok B H) : ∀ b, x.bs b → b < H.length := fun b hb => by
  obtain ⟨cs, h⟩ := h.ownb b hb
  exact (List.getElem?_eq_some_iff.1 h).1
structure LB (B : Nat → Prop) (c : Option Nat) (H0 H : AH) (L : List Ix) : Prop where
  ok : ∀ (i : Nat) x, L[i]? = some x → x.ok B H
  fr : ∀ (i : Nat) x, L[i]? = some x → ∀ b, x.bs b → ¬ B b ∧ H0.length ≤ b
  dj : ∀ (i j : Nat) x y, i ≠ j → L[i]? = some x → L[j]? = some y → ∀ b, x.bs b → ¬ y.bs b
  len : H0.length ≤ H.length
  keep : ∀ b, b < H0.length → c ≠ some b → H[b]? = H0[b]?
  b0 : ∀ b, b < H0.length → c ≠ some b → B b
  bl : ∀ b, B b → b < H.length ∧ c ≠ some b
  cur : ∀ cb, c = some cb → Cur H cb
  nc : ∀ cb, c = some cb → ∀ (i : Nat) x, L[i]? = some x → ¬ x.bs cb
/-- What a function holds: each by itself, none older than the call; and what it only reads. -/
def LX (c : Option Nat) (H0 H : AH) (L : List Ix) : Prop := ∃ B, LB B c H0 H L
theorem LX.ext {H0 H : AH} {L : List Ix} (h : LX none H0 H L) : ∃ K, H = H0 ++ K := by
  obtain ⟨B, h⟩ := h
  exact ext_of h.len fun b hb => h.keep b hb (by simp)
theorem LX.len {c : Option Nat} {H0 H : AH} {L : List Ix} (h : LX c H0 H L) : H0.length ≤ H.length := by
  obtain ⟨B, h⟩ := h; exact h.len
theorem LX.nil {H : AH} : LX none H H [] :=
  ⟨fun b => b < H.length, fun i x h => by simp at h, fun i x h => by simp at h, fun i j x y _ h => by simp at h, Nat.le_refl _, fun _ _ _ => rfl, fun b hb _ => hb, fun b hb => ⟨hb, by simp⟩, fun _ h => by simp at h, fun _ h => by simp at h⟩
/-- The heap turns, but for what is held or only read. -/
theorem LB.add {B : Nat → Prop} {c : Option Nat} {H0 H H' : AH} {L : List Ix} {x : Ix} (h : LB B c H0 H L) (hl : H.length ≤ H'.length) (hk : ∀ b, b < H.length → c ≠ some b → H'[b]? = H[b]?) (hc : ∀ cb, c = some cb → Cur H' cb) (hx : x.ok B H') (hb : ∀ b, x.bs b → H.length ≤ b) : LB B c H0 H' (x :: L) := by
  have same : ∀ (i : Nat) y, L[i]? = some y → y.ok B H' := fun i y hy => (h.ok i y hy).same (fun b hb => hk b ((h.ok i y hy).lt b hb) fun e => h.nc b e i y hy hb) (fun b hb => hk b (h.bl b hb).1 (h.bl b hb).2) fun b hb => hb
  refine ⟨?_, ?_, ?_, Nat.le_trans h.len hl, fun b hb hn => ?_, h.b0, fun b hb => ⟨Nat.lt_of_lt_of_le (h.bl b hb).1 hl, (h.bl b hb).2⟩, hc, fun cb e => ?_⟩
  · rintro (_ | i) y hy
    · cases hy; exact hx
    · exact same i y hy
  · rintro (_ | i) y hy b hb2
    · cases hy
      exact ⟨fun hB => by have := (h.bl b hB).1; have := hb b hb2; omega, Nat.le_trans h.len (hb b hb2)⟩
    · exact h.fr i y hy b hb2
  · rintro (_ | i) (_ | j) y z hne hy hz b h1 h2
    · exact hne rfl
    · cases hy; have := hb b h1; have := (h.ok j z hz).lt b h2; omega
    · cases hz; have := hb b h2; have := (h.ok i y hy).lt b h1; omega
    · exact h.dj i j y z (by omega) hy hz b h1 h2
  · rw [hk b (Nat.lt_of_lt_of_le hb h.len) hn, h.keep b hb hn]
  · rintro (_ | i) y hy h2
    · cases hy; have := hb cb h2; have := (h.cur cb e).lt; omega
    · exact h.nc cb e i y hy h2
theorem LB.tail {B : Nat → Prop} {c : Option Nat} {H0 H : AH} {L : List Ix} {x : Ix} (h : LB B c H0 H (x :: L)) : LB B c H0 H L :=
  ⟨fun i y hy => h.ok (i + 1) y hy, fun i y hy => h.fr (i + 1) y hy, fun i j y z hne hy hz => h.dj (i + 1) (j + 1) y z (by omega) hy hz, h.len, h.keep, h.b0, h.bl, h.cur, fun cb e i y hy => h.nc cb e (i + 1) y hy⟩
theorem LX.tail {c : Option Nat} {H0 H : AH} {L : List Ix} {x : Ix} (h : LX c H0 H (x :: L)) : LX c H0 H L := by
  obtain ⟨B, h⟩ := h; exact ⟨B, h.tail⟩
theorem LB.grow {B : Nat → Prop} {c : Option Nat} {H0 H H' : AH} {L : List Ix} (h : LB B c H0 H L) (hl : H.length ≤ H'.length) (hk : ∀ b, b < H.length → c ≠ some b → H'[b]? = H[b]?) (hc : ∀ cb, c = some cb → Cur H' cb) : LB B c H0 H' L :=
  (h.add (x := .own (.row (.slice none 0 0) [])) hl hk hc OwnRow.nil fun b hb => by simp [Ix.bs, It.bs, blkOf] at hb).tail
theorem LX.call {cb : Nat} {H0 H H' : AH} {L : List Ix} (h : LX (some cb) H0 H L) (hf : Frm cb H H') : LX (some cb) H0 H' L := by
  obtain ⟨B, h⟩ := h
  exact ⟨B, h.grow hf.len (fun b hb hn => hf.keep b hb (by simpa using Ne.symm hn)) (fun g e => by cases e; exact hf.cur)⟩
theorem LX.extd {c : Option Nat} {H0 H H' : AH} {L : List Ix} (h : LX c H0 H L) (hf : ∃ K, H' = H ++ K) : LX c H0 H' L := by
  obtain ⟨B, h⟩ := h
  obtain ⟨K, rfl⟩ := hf
  exact ⟨B, h.grow (by simp) (fun b hb _ => List.getElem?_append_left hb) (fun g e => (h.cur g e).mono)⟩
/-- One thing is turned. -/
theorem LB.upd {B : Nat → Prop} {c : Option Nat} {H0 H H' : AH} {L : List Ix} {x x' : Ix} (h : LB B c H0 H L) (i : Nat) (hi : L[i]? = some x) (hl : H.length ≤ H'.length) (hk : ∀ b, b < H.length → ¬ x.bs b → H'[b]? = H[b]?) (hx : x'.ok B H') (hb : ∀ b, x'.bs b → x.bs b ∨ H.length ≤ b) : LB B c H0 H' (L.set i x') := by
  have hil := (List.getElem?_eq_some_iff.1 hi).1
  have get : ∀ (j : Nat) y, (L.set i x')[j]? = some y → (j = i ∧ y = x') ∨ (j ≠ i ∧ L[j]? = some y) := fun j y hy => by
    rcases Nat.decEq i j with e | e
    · rw [List.getElem?_set_ne e] at hy; exact .inr ⟨Ne.symm e, hy⟩
    · subst e; rw [List.getElem?_set_self hil] at hy; cases hy; exact .inl ⟨rfl, rfl⟩
  have hB : ∀ b, B b → H'[b]? = H[b]? := fun b hb => hk b (h.bl b hb).1 fun e => (h.fr i x hi b e).1 hb
  refine ⟨fun j y hy => ?_, fun j y hy b hb2 => ?_, fun j k y z hne hy hz b e1 e2 => ?_, Nat.le_trans h.len hl, fun b hb2 hn => ?_, h.b0, fun b hb => ⟨Nat.lt_of_lt_of_le (h.bl b hb).1 hl, (h.bl b hb).2⟩, fun cb e => ?_, fun cb e j y hy h2 => ?_⟩
  · rcases get j y hy with ⟨rfl, rfl⟩ | ⟨hne, hy⟩
    · exact hx
    · exact (h.ok j y hy).same (fun b hb2 => hk b ((h.ok j y hy).lt b hb2) (h.dj j i y x hne hy hi b hb2)) hB fun b hb => hb
  · rcases get j y hy with ⟨rfl, rfl⟩ | ⟨hne, hy⟩
    · exact (hb b hb2).elim (h.fr j x hi b) fun h2 => ⟨fun hB2 => by have := (h.bl b hB2).1; omega, Nat.le_trans h.len h2⟩
    · exact h.fr j y hy b hb2
  · rcases get j y hy with ⟨rfl, rfl⟩ | ⟨hne1, hy'⟩
    · rcases get k z hz with ⟨rfl, rfl⟩ | ⟨hne2, hz⟩
      · exact hne rfl
      · exact (hb b e1).elim (fun e1 => h.dj j k x z hne hi hz b e1 e2) fun e1 => by have := (h.ok k z hz).lt b e2; omega
    · rcases get k z hz with ⟨rfl, rfl⟩ | ⟨hne2, hz⟩
      · exact (hb b e2).elim (fun e2 => h.dj j k y x hne hy' hi b e1 e2) fun e2 => by have := (h.ok j y hy').lt b e1; omega
      · exact h.dj j k y z hne hy' hz b e1 e2
  · rw [hk b (Nat.lt_of_lt_of_le hb2 h.len) fun e => by have := (h.fr i x hi b e).2; omega, h.keep b hb2 hn]
  · have h2 := h.cur cb e
    refine h2.same (hk cb h2.lt (h.nc cb e i x hi)) fun b cs hb2 => ?_
    rw [hk b (List.getElem?_eq_some_iff.1 hb2).1 fun e => ?_]
    · exact hb2
    · obtain ⟨cs', h3⟩ := (h.ok i x hi).ownb b e
      rw [hb2] at h3; cases h3
  · rcases get j y hy with ⟨rfl, rfl⟩ | ⟨hne1, hy'⟩
    · exact (hb cb h2).elim (h.nc cb e j x hi) fun h3 => by have := (h.cur cb e).lt; omega
    · exact h.nc cb e j y hy' h2
theorem LX.rd {c : Option Nat} {H0 H : AH} {L : List Ix} {o : Nat} {cs : List Value} (h : LX c H0 H L) (i : Nat) (hi : L[i]? = some (.own (.box o cs))) : rd H o = some cs ∧ wrt H o = some cs := by
  obtain ⟨B, h⟩ := h
  exact ⟨rd_own (h.ok i _ hi), wrt_own (h.ok i _ hi)⟩
theorem LX.own {c : Option Nat} {H0 H : AH} {L : List Ix} {v : Value} {l : List Int} (h : LX c H0 H L) (i : Nat) (hi : L[i]? = some (.own (.row v l))) : OwnRow H v l := by
  obtain ⟨B, h⟩ := h; exact h.ok i _ hi
theorem LX.int {c : Option Nat} {H0 H : AH} {L : List Ix} {v : Value} {l : List Int} (h : LX c H0 H L) (i : Nat) (hi : L[i]? = some (.own (.row v l))) : IntRow H v l := (h.own i hi).int
theorem LX.tb {c : Option Nat} {H0 H : AH} {L : List Ix} {v : Value} {ks : List CK} {n : Nat} {xs : List Value} {V : List CV} (h : LX c H0 H L) (i : Nat) (hi : L[i]? = some (.tab v ks n xs V)) : FRow H v ks n xs ∧ cvs H xs = V := by
  obtain ⟨B, h⟩ := h; exact ⟨(h.ok i _ hi).1.frow, (h.ok i _ hi).2⟩
theorem LX.cur {H0 H : AH} {L : List Ix} {cb : Nat} (h : LX (some cb) H0 H L) : Cur H cb := by
  obtain ⟨B, h⟩ := h; exact h.cur cb rfl
theorem LX.nc {H0 H : AH} {L : List Ix} {cb : Nat} {v : Value} {l : List Int} (h : LX (some cb) H0 H L) (i : Nat) (hi : L[i]? = some (.own (.row v l))) : blkOf v ≠ some cb := by
  obtain ⟨B, h⟩ := h
  exact h.nc cb rfl i _ hi
theorem LX.box {c : Option Nat} {H0 H : AH} {L : List Ix} (h : LX c H0 H L) (cs : List Value) : LX c H0 (H ++ [⟨cs, .own⟩]) (.own (.box H.length cs) :: L) := by
  obtain ⟨B, h⟩ := h
  exact ⟨B, h.add (by simp) (fun b hb _ => List.getElem?_append_left hb) (fun g e => (h.cur g e).mono) (by show (H ++ [⟨cs, .own⟩])[H.length]? = _; rw [gt0]; rfl) fun b hb => by cases hb; exact Nat.le_refl _⟩
theorem LX.nrow {c : Option Nat} {H0 H H' : AH} {L : List Ix} {v : Value} {l : List Int} (h : LX c H0 H L) (hv : DR H H' v l) (hf : ∃ K, H' = H ++ K) : LX c H0 H' (.own (.row v l) :: L) := by
  obtain ⟨B, h⟩ := h
  obtain ⟨K, rfl⟩ := hf
  exact ⟨B, h.add (by simp) (fun b hb _ => List.getElem?_append_left hb) (fun g e => (h.cur g e).mono) hv.own hv.fr⟩
theorem LX.set {c : Option Nat} {H0 H : AH} {L : List Ix} {o : Nat} {cs : List Value} (h : LX c H0 H L) (i : Nat) (hi : L[i]? = some (.own (.box o cs))) (cs' : List Value) : LX c H0 (H.set o ⟨cs', .own⟩) (L.set i (.own (.box o cs'))) := by
  obtain ⟨B, h⟩ := h
  exact ⟨B, h.upd i hi (by simp) (fun b hb hn => List.getElem?_set_ne (fun e => hn e.symm)) (set_at (h.ok i _ hi)) fun b hb => .inl hb⟩
theorem LX.out {H0 H : AH} {L : List Ix} {cb : Nat} (h : LX (some cb) H0 H L) (hb : H0.length ≤ cb) : LX none H0 H L := by
  obtain ⟨B, h⟩ := h
  exact ⟨B, h.ok, h.fr, h.dj, h.len, fun b hb2 _ => h.keep b hb2 (by simp; omega), fun b hb2 _ => h.b0 b hb2 (by simp; omega), fun b hb => ⟨(h.bl b hb).1, by simp⟩, fun _ e => by simp at e, fun _ e => by simp at e⟩
theorem LX.cursor {H0 H H' : AH} {L : List Ix} {cb : Nat} (h : LX none H0 H L) (hf : ∃ K, H' = H ++ K) (hc : Cur H' cb) (hb : H.length ≤ cb) : LX (some cb) H0 H' L := by
  obtain ⟨B, h1⟩ := h.extd hf
  obtain ⟨B2, h⟩ := h
  have hlen := ext_len hf
  obtain ⟨K, rfl⟩ := hf
  have h3 : LB B2 none H0 (H ++ K) L := h.grow (by simp) (fun b hb _ => List.getElem?_append_left hb) (fun g e => (h.cur g e).mono)
  refine ⟨B2, h3.ok, h3.fr, h3.dj, h3.len, fun b hb _ => h3.keep b hb (by simp), fun b hb _ => h3.b0 b hb (by simp), fun b hb2 => ⟨(h3.bl b hb2).1, fun e => ?_⟩, fun g e => by cases e; exact hc, fun g e i x hx h2 => ?_⟩
  · cases e
    have := (h.bl _ hb2).1; omega
  · cases e
    have := (h.ok i x hx).lt _ h2; omega
theorem LX.da {cb : Nat} {H0 H H' : AH} {L : List Ix} {p q : Value} {sh dt : List Int} (h : LX (some cb) H0 H L) (ha : DA H H' p q sh dt) (hf : Frm cb H H') : LX (some cb) H0 H' (.own (.row p sh) :: .own (.row q dt) :: L) := by
  obtain ⟨B, h⟩ := h
  have h2 : LB B (some cb) H0 H' (.own (.row q dt) :: L) := h.add hf.len (fun b hb hn => hf.keep b hb (by simpa using Ne.symm hn)) (fun g e => by cases e; exact hf.cur) ha.dt.own ha.dt.fr
  have h1 : LB B (some cb) H0 H' (.own (.row p sh) :: L) := h.add hf.len (fun b hb hn => hf.keep b hb (by simpa using Ne.symm hn)) (fun g e => by cases e; exact hf.cur) ha.sh.own ha.sh.fr
  refine ⟨B, ?_, ?_, ?_, h1.len, h1.keep, h1.b0, h1.bl, h1.cur, fun cb e => ?_⟩
  · rintro (_ | i) y hy
    · cases hy; exact ha.sh.own
    · exact h2.ok i y hy
  · rintro (_ | i) y hy b hb
    · cases hy; exact h1.fr 0 _ rfl b hb
    · exact h2.fr i y hy b hb
  · rintro (_ | _ | i) (_ | _ | j) y z hne hy hz b e1 e2
    · exact hne rfl
    · cases hy; cases hz; exact ha.dj b e1 e2
    · exact h1.dj 0 (j + 1) y z (by omega) hy hz b e1 e2
    · cases hy; cases hz; exact ha.dj b e2 e1
    · exact hne rfl
    · exact h2.dj 0 (j + 1) y z (by omega) hy hz b e1 e2
    · exact h1.dj (i + 1) 0 y z (by omega) hy hz b e1 e2
    · exact h2.dj (i + 1) 0 y z (by omega) hy hz b e1 e2
    · exact h1.dj (i + 1) (j + 1) y z (by omega) hy hz b e1 e2
  · rintro (_ | i) y hy
    · cases hy; exact h1.nc cb e 0 _ rfl
    · exact h2.nc cb e i y hy
theorem st_box {c : Option Nat} {H0 H : AH} {L : List Ix} {Φ : Value → AH → Prop} {cs : List Value} (q : LX c H0 H L) (k : ∀ H', LX c H0 H' (.own (.box H.length cs) :: L) → Φ (.pointer (some ⟨H.length, 0, none⟩)) H') : oM (some (cs, none)) H Φ := k _ (q.box cs)
theorem rpBytes {P : Program} {H : AH} {t e : TypeId} {v : Value} (h : RpV P H t v) (hu : P.underlying t = some (.slice e)) (he : P.underlying e = some (.int .u8)) (hc : P.cellsOf e = 1) : ∃ a n c, v = .slice a n c ∧ BRow H a n c := by
  obtain ⟨k, vs, h, rfl⟩ := h
  rcases h.slice hu with rfl | ⟨b, n, cs, rfl, h2, h3, h4, k, h5⟩
  · exact ⟨none, 0, 0, by simp [mkV, hu], fun h => by omega⟩
  · rw [hc] at h3 h5
    refine ⟨_, n, 1, by simp [mkV, hu, hc], fun _ => ⟨b, 0, cs, rfl, rfl, h2, fun j hj => ?_⟩⟩
    obtain ⟨m, h6, h7⟩ := (h5 j hj).int he
    have h8 : cs[j]? = some (.int .u8 m) := by
      have := congrArg (fun l : List Value => l[0]?) h6
      simp only [List.getElem?_take_of_lt Nat.zero_lt_one, List.getElem?_drop, Nat.mul_one, Nat.add_zero, List.getElem?_cons_zero] at this
      exact this
    refine ⟨m, by rw [Nat.zero_add]; exact h8, ?_⟩
    have := h7
    simp [Lit.wf] at this
    have e1 : IntKind.u8.min = 0 := rfl
    have e2 : IntKind.u8.max = 255 := rfl
    omega
set_option maxHeartbeats 4000000 in
theorem sameInts_ok {H : AH} {v w : Value} {l m : List Int} (hv : IntRow H v l) (hw : IntRow H w m) (hl : l.length < 9223372036854775807) : CallsA Try.prog 44 #[v, w] H fun r H' => r = .bool (l == m) ∧ H' = H := by
  obtain ⟨a, c, rfl, gv⟩ := hv.op
  obtain ⟨a', c', rfl, gw⟩ := hw.op
  refine w44 ?_
  unfold k44
  simp -implicitDefEqProofs only [kz, kk0, kk1, kk2, kk3, ↓two_true, ↓two_false, oS_some, oM_some, mkv, aggAt, Nat.reduceLeDiff, Nat.reduceSub, Nat.reduceMul, implies_true, Nat.reduceEqDiff, reduceIte, Nat.reduceAdd, Nat.reduceBEq, reduceCtorEq, ix24, ld3, ln24]
  refine two_intro (fun h => ?_) (fun h => ?_)
  · have : (l == m) = false := by
      rw [beq_eq_false_iff_ne]
      rintro rfl
      simp at h
    rw [this]
  · have hlen : l.length = m.length := by simp at h; omega
    refine rW_loop (σ := Nat) (fun i tm H' => tm 0 = .slice a l.length c ∧ tm 1 = .slice a' m.length c' ∧ tm 5 = .int .i64 i ∧ H' = H ∧ i ≤ l.length ∧ ∀ j, j < i → l[j]? = m[j]?) (fun i => l.length - i) 0 ?_ ?_
    · simp -implicitDefEqProofs [kk0, kk1, kk2, kk3, rW_block, ↓two_true, ↓two_false, rW_cond, rO_guard, oS_some, oM_some, mkv, aggAt, Nat.reduceLeDiff, Nat.reduceSub, Nat.reduceMul, cond_true, cond_false, Option.bind_some, List.length_append, List.length_cons, List.length_nil, List.append_assoc, List.cons_append, List.nil_append, List.set_cons_zero, List.set_cons_succ, List.size_toArray, List.all_cons, List.all_nil, List.drop_zero, List.drop_succ_cons, List.take_succ_cons, List.take_zero, List.mem_cons, Prod.mk.injEq, List.not_mem_nil, implies_true, List.getElem?_toArray, List.getElem?_cons_zero, List.getElem?_cons_succ, List.getElem?_nil, Option.getD_some, Option.getD_none, Nat.reduceEqDiff, reduceIte, Nat.reduceAdd, List.map_toArray, List.map_cons, List.map_nil, Bool.false_eq_true, Nat.reduceBEq, Option.map_some, Option.map_none, reduceCtorEq, ix24, ld3, ln24]
    · rintro i tm H' ⟨h0, h1, h5, rfl, hi, hn⟩
      simp -implicitDefEqProofs only [kz, kk0, kk1, kk2, kk3, ↓two_true, ↓two_false, oS_some, oM_some, mkv, aggAt, Nat.reduceLeDiff, Nat.reduceSub, Nat.reduceMul, implies_true, Nat.reduceEqDiff, reduceIte, Nat.reduceAdd, Nat.reduceBEq, reduceCtorEq, ix24, ld3, ln24, h0, h1, h5]
      refine two_intro (fun hc => ?_) (fun hc => ?_)
      · have hc' : i < l.length := by simpa using hc
        have hc2 : i < m.length := by omega
        obtain ⟨b, o, cs, rfl, rfl, hrd, _, hcell⟩ := gv (by omega)
        obtain ⟨b', o', cs', rfl, rfl, hrd', _, hcell'⟩ := gw (by omega)
        simp -implicitDefEqProofs only [kz, kk0, kk1, kk2, kk3, ↓two_true, ↓two_false, oS_some, oM_some, mkv, aggAt, Nat.reduceLeDiff, Nat.reduceSub, Nat.reduceMul, implies_true, Nat.reduceEqDiff, reduceIte, Nat.reduceAdd, Nat.reduceBEq, reduceCtorEq, ix24, ld3, ln24, h0, h1, h5, Int.toNat_natCast, Nat.mul_one, hrd, hrd', hcell i hc', hcell' i hc2, IntWalk.i64_in (↑i + 1) (by omega)]
        refine ⟨⟨by omega, by omega⟩, ⟨by omega, by omega⟩, two_intro (fun h => ?_) (fun h => ?_)⟩
        · have : (l == m) = false := by
            rw [beq_eq_false_iff_ne]
            rintro rfl
            simp at h
          rw [this]
        · refine ⟨i + 1, by omega, by simp, hc', fun j hj => ?_⟩
          rcases Nat.lt_or_ge j i with h1 | h1
          · exact hn j h1
          · have : j = i := by omega
            subst this
            simpa [hc', hc2] using h
      · have hc' : ¬ i < l.length := by simpa using hc
        have : (l == m) = true := by
          rw [beq_iff_eq]
          refine List.ext_getElem? fun j => ?_
          rcases Nat.lt_or_ge j i with h1 | h1
          · exact hn j h1
          · rw [List.getElem?_eq_none (by omega), List.getElem?_eq_none (by omega)]
        rw [this]
def rowsV (rs : List (List Int × List Int)) : List CV := rs.flatMap fun r => [.r r.1, .r r.2]
theorem rowsV_len {rs : List (List Int × List Int)} : (rowsV rs).length = rs.length * 2 := by
  induction rs with
  | nil => rfl
  | cons r rs ih => simp only [rowsV, List.flatMap_cons, List.length_append, List.length_cons, List.length_nil] at ih ⊢; omega
theorem rowsV_get : ∀ {rs : List (List Int × List Int)} {i : Nat} (h : i < rs.length), (rowsV rs)[i * 2]? = some (.r rs[i].1) ∧ (rowsV rs)[i * 2 + 1]? = some (.r rs[i].2)
  | r :: rs, 0, _ => by simp [rowsV]
  | r :: rs, i + 1, h => by
    have h' : i < rs.length := by simpa using h
    obtain ⟨h1, h2⟩ := rowsV_get h'
    have e : rowsV (r :: rs) = .r r.1 :: .r r.2 :: rowsV rs := rfl
    refine ⟨?_, ?_⟩
    · rw [e, show (i + 1) * 2 = i * 2 + 1 + 1 by omega, List.getElem?_cons_succ, List.getElem?_cons_succ, h1]; rfl
    · rw [e, show (i + 1) * 2 + 1 = i * 2 + 1 + 1 + 1 by omega, List.getElem?_cons_succ, List.getElem?_cons_succ, h2]; rfl
/-- A row of arrays that may be read. -/
def RowsA (H : AH) (v : Value) (rs : List (List Int × List Int)) : Prop :=
  ∃ a c, v = .slice a rs.length c ∧ (0 < rs.length → ∃ b o cs, a = some ⟨b, o, none⟩ ∧ c = 2 ∧ rd H b = some cs ∧
    ∀ i (hi : i < rs.length), ∃ p q, cs[o + i * 2]? = some p ∧ cs[o + i * 2 + 1]? = some q ∧ IntRow H p rs[i].1 ∧ IntRow H q rs[i].2)
theorem RowsA.ext {H H' : AH} {v : Value} {rs : List (List Int × List Int)} (h : RowsA H v rs) (he : ∃ K, H' = H ++ K) : RowsA H' v rs := by
  obtain ⟨a, c, e, g⟩ := h
  refine ⟨a, c, e, fun h0 => ?_⟩
  obtain ⟨b, o, cs, e1, e2, h1, h2⟩ := g h0
  refine ⟨b, o, cs, e1, e2, rd_ext h1 he, fun i hi => ?_⟩
  obtain ⟨p, q, g1, g2, g3, g4⟩ := h2 i hi
  exact ⟨p, q, g1, g2, g3.ext he, g4.ext he⟩
theorem FRow.rows {H : AH} {v : Value} {n : Nat} {xs : List Value} {rs : List (List Int × List Int)} (h : FRow H v [.r, .r] n xs) (hv : cvs H xs = rowsV rs) : RowsA H v rs ∧ n = rs.length := by
  have hn : n = rs.length := by
    have := congrArg List.length hv
    have hl := h.len
    simp only [cvs, List.length_map, rowsV_len, List.length_cons, List.length_nil] at this hl
    omega
  subst hn
  obtain ⟨a, c, rfl, g⟩ := h.opn 2 rfl
  refine ⟨⟨a, c, rfl, fun h0 => ?_⟩, rfl⟩
  obtain ⟨b, o, cs, rfl, rfl, h1, h2, h3⟩ := g h0
  refine ⟨b, o, cs, rfl, rfl, h1, fun i hi => ?_⟩
  obtain ⟨h4, h5⟩ := h3 i hi
  obtain ⟨p, _, e, kp, q, _, rfl, kq, rfl⟩ := h.elemn 2 rfl hi
  rw [e] at h5
  obtain ⟨g1, g2⟩ := rowsV_get hi
  have e0 : (elm 2 xs i)[0]? = some p := by rw [e]; rfl
  have e1 : (elm 2 xs i)[1]? = some q := by rw [e]; rfl
  rw [elm_get (by omega)] at e0 e1
  rw [← hv] at g1 g2
  simp only [cvs, List.getElem?_map] at g1 g2
  rw [Nat.add_zero] at e0
  rw [e0, Option.map_some, cv_row kp.1] at g1
  rw [e1, Option.map_some, cv_row kq.1] at g2
  injection g1 with g1; injection g1 with g1
  injection g2 with g2; injection g2 with g2
  refine ⟨p, q, h5 0 p rfl, h5 1 q rfl, ?_, ?_⟩
  · rw [← g1]; exact kp.1
  · rw [← g2]; exact kq.1
theorem LD.rows {c : Option Nat} {H0 H : AH} {L : List It} {v : Value} {n : Nat} {ys : List Value} {rs : List (List Int × List Int)} (h : LD c H0 H L) (i : Nat) (hi : L[i]? = some (.cmp (.row v [.r, .r] n ys) (rowsV rs))) : RowsA H v rs ∧ n = rs.length := by
  obtain ⟨h1, h2⟩ := h.ok i _ hi
  exact FRow.rows (OT.frow h1) h2
theorem TabOk.ownOk {B : Nat → Prop} {H : AH} {v : Value} {ks : List CK} {n : Nat} {xs : List Value} (s : Nat) (hs : ks.length = s) (h : TabOk B H v ks n xs) : Go.Proofs.Ytpclegiocblpmaa.AM.ownOk v s H = true := by
  subst hs
  rcases h.row with ⟨rfl, rfl⟩ | ⟨b, o, cs, rfl, h1, h2, h3⟩
  · simp [Go.Proofs.Ytpclegiocblpmaa.AM.ownOk]
  · simp [Go.Proofs.Ytpclegiocblpmaa.AM.ownOk, h1]
/-- An element of a table that is only read: its rows, held as rows that are only read. -/
theorem LX.elem {c0 : Option Nat} {H0 H : AH} {L : List Ix} {v : Value} {n : Nat} {xs : List Value} {rs : List (List Int × List Int)} {k : Nat} (q : LX c0 H0 H L) (i : Nat) (hi : L[i]? = some (.ftab v [.r, .r] n xs (rowsV rs))) (hk : k < rs.length) :
    ∃ b o cs p p', v = .slice (some ⟨b, o, none⟩) n 2 ∧ Go.Proofs.Ytpclegiocblpmaa.AM.rd H b = some cs ∧ cs[o + k * 2]? = some p ∧ cs[o + k * 2 + 1]? = some p' ∧ LX c0 H0 H (.fro p rs[k].1 :: .fro p' rs[k].2 :: L) := by
  obtain ⟨B, h⟩ := q
  obtain ⟨t1, t2⟩ := h.ok i _ hi
  have hn : n = rs.length := (FRow.rows t1.fr t2).2
  have hl := t1.fr.len
  simp only [List.length_cons, List.length_nil] at hl
  rcases t1.fr.row with ⟨_, e⟩ | ⟨b, o, cs, e, h2, h3, h4⟩
  · omega
  · obtain ⟨g1, g2⟩ := rowsV_get hk
    have e0 := List.getElem?_eq_getElem (l := xs) (i := k * 2) (by omega)
    have e1 := List.getElem?_eq_getElem (l := xs) (i := k * 2 + 1) (by omega)
    have k0 := t1.fr.ok k 0 .r (xs[k * 2]'(by omega)) (by omega) rfl e0
    have k1 := t1.fr.ok k 1 .r _ (by omega) rfl e1
    rw [← t2] at g1 g2
    simp only [cvs, List.getElem?_map, e0, e1, Option.map_some, cv_row k0.1, cv_row k1.1, Option.some.injEq, CV.r.injEq] at g1 g2
    refine ⟨b, o, cs, _, _, by rw [e]; rfl, h2, h4 _ _ e0, by rw [Nat.add_assoc]; exact h4 _ _ e1, B, ?_⟩
    have m0 : ∀ g, blkOf (xs[k * 2]'(by omega)) = some g → B g := fun g hg => t1.base g (.inr ⟨_, List.getElem_mem _, hg⟩)
    have m1 : ∀ g, blkOf (xs[k * 2 + 1]'(by omega)) = some g → B g := fun g hg => t1.base g (.inr ⟨_, List.getElem_mem _, hg⟩)
    have h5 : LB B c0 H0 H (.fro _ rs[k].2 :: L) := h.add (x := .fro (xs[k * 2 + 1]'(by omega)) rs[k].2) (Nat.le_refl _) (fun b hb _ => rfl) h.cur ⟨by rw [← g2]; exact k1.1, m1⟩ fun b hb => hb.elim
    exact h5.add (x := .fro (xs[k * 2]'(by omega)) rs[k].1) (Nat.le_refl _) (fun b hb _ => rfl) h.cur ⟨by rw [← g1]; exact k0.1, m0⟩ fun b hb => hb.elim

/-- A row's elements, each as its cells' values. -/
def chunk (s : Nat) (V : List CV) (n : Nat) : List (List CV) := (List.range n).map fun i => (V.drop (i * s)).take s
theorem chunk_len {s n : Nat} {V : List CV} : (chunk s V n).length = n := by simp [chunk]
theorem chunk_get {s n i : Nat} {H : AH} {xs : List Value} (h : i < n) : (chunk s (cvs H xs) n)[i]? = some ((elm s xs i).map (cv H)) := by
  simp [chunk, h, elm, cvs]
theorem chunk_get' {s n i : Nat} {H : AH} {xs : List Value} (h : i < (chunk s (cvs H xs) n).length) : (chunk s (cvs H xs) n)[i] = (elm s xs i).map (cv H) := by
  have := chunk_get (s := s) (H := H) (xs := xs) (by rwa [chunk_len] at h : i < n)
  rw [List.getElem?_eq_getElem h] at this
  exact Option.some.inj this

set_option maxHeartbeats 4000000 in
theorem indexFuncExpr_ok {H : AH} {v : Value} {n : Nat} {xs : List Value} {g : FuncId} {p : List CV → Bool} (hv : FRow H v kExpr n xs) (hl : n ≤ 1073741824)
    (hp : ∀ (L : AH) x, All2 (H ++ L) kExpr x → CallsA Try.prog g #[.agg x.toArray] (H ++ L) fun r H' => r = .bool (p (x.map (cv (H ++ L)))) ∧ ∃ K, H' = (H ++ L) ++ K) :
    CallsA Try.prog 105 #[v, .func (.func g) #[] #[]] H fun r H' => r = .int .i64 (idxF p (chunk 7 (cvs H xs) n)) ∧ ∃ K, H' = H ++ K := by
  obtain ⟨a, c, rfl, gv⟩ := hv.opn 7 rfl
  refine w105 ?_
  unfold k105
  simp -implicitDefEqProofs only [kz, kk0, kk1, kk2, kk3, ↓two_true, ↓two_false, oS_some, oM_some, mkv, aggAt, Nat.reduceLeDiff, Nat.reduceSub, Nat.reduceMul, implies_true, Nat.reduceEqDiff, reduceIte, Nat.reduceAdd, Nat.reduceBEq, reduceCtorEq, ix44, ld43, ln44]
  refine rW_loop (σ := Nat) (fun i tm H' => tm 0 = .slice a n c ∧ tm 1 = .func (.func g) #[] #[] ∧ tm 7 = .int .i64 n ∧ tm 8 = .int .i64 i ∧ (∃ K, H' = H ++ K) ∧ i ≤ n ∧ ∀ x ∈ (chunk 7 (cvs H xs) n).take i, p x = false) (fun i => n - i) 0 ?_ ?_
  · simp -implicitDefEqProofs [kk0, kk1, kk2, kk3, rW_block, ↓two_true, ↓two_false, rW_cond, rO_guard, oS_some, oM_some, mkv, aggAt, Nat.reduceLeDiff, Nat.reduceSub, Nat.reduceMul, cond_true, cond_false, Option.bind_some, List.length_append, List.length_cons, List.length_nil, List.append_assoc, List.cons_append, List.nil_append, List.set_cons_zero, List.set_cons_succ, List.size_toArray, List.all_cons, List.all_nil, List.drop_zero, List.drop_succ_cons, List.take_succ_cons, List.take_zero, List.mem_cons, Prod.mk.injEq, List.not_mem_nil, implies_true, List.getElem?_toArray, List.getElem?_cons_zero, List.getElem?_cons_succ, List.getElem?_nil, Option.getD_some, Option.getD_none, Nat.reduceEqDiff, reduceIte, Nat.reduceAdd, List.map_toArray, List.map_cons, List.map_nil, Bool.false_eq_true, Nat.reduceBEq, Option.map_some, Option.map_none, reduceCtorEq, ix44, ld43, ln44]
  · rintro i tm H' ⟨h0, h1, h7, h8, ⟨K, rfl⟩, hi, hn⟩
    simp -implicitDefEqProofs only [kz, kk0, kk1, kk2, kk3, ↓two_true, ↓two_false, oS_some, oM_some, mkv, aggAt, Nat.reduceLeDiff, Nat.reduceSub, Nat.reduceMul, implies_true, Nat.reduceEqDiff, reduceIte, Nat.reduceAdd, Nat.reduceBEq, reduceCtorEq, ix44, ld43, ln44, h0, h1, h7, h8]
    refine two_intro (fun hc => ?_) (fun hc => ?_)
    · have hc' : i < n := by simpa using hc
      obtain ⟨b, o, cs, rfl, rfl, hrd, hle, hcell⟩ := gv (by omega)
      have g1 : rd (H ++ K) b = some cs := by rw [rdl (by simp [hrd]), hrd]
      have l1 : ld Try.prog 43 (o + i * 7) cs = some (.agg (elm 7 xs i).toArray) := by rw [ld43]; exact (hcell i hc').1
      have x1 := hv.elemn 7 rfl hc'
      have e := fun Φ => (hp K _ (x1.mono (L := K))).eqV (Φ := Φ)
      rw [x1.mapcv] at e
      have hci : i < (chunk 7 (cvs H xs) n).length := by rw [chunk_len]; exact hc'
      have hcg := chunk_get' hci
      simp -implicitDefEqProofs only [kz, kk0, kk1, kk2, kk3, ↓two_true, ↓two_false, oS_some, oM_some, mkv, aggAt, Nat.reduceLeDiff, Nat.reduceSub, Nat.reduceMul, implies_true, Nat.reduceEqDiff, reduceIte, Nat.reduceAdd, Nat.reduceBEq, reduceCtorEq, ix44, ld43, ln44, h0, h1, h7, h8, Int.toNat_natCast, g1, l1, Array.empty_append, Array.append_empty, e, IntWalk.i64_in (↑i + 1) (by omega)]
      refine ⟨⟨by omega, by omega⟩, two_intro (fun h => ?_) (fun h => ?_)⟩
      · exact ⟨by rw [idxF_some hci (by rw [hcg]; exact h) hn], _, rfl⟩
      · refine ⟨i + 1, by omega, by simp, ⟨_, rfl⟩, hc', ?_⟩
        intro x hx
        rw [List.take_succ_eq_append_getElem hci] at hx
        rcases List.mem_append.1 hx with hx | hx
        · exact hn x hx
        · rw [List.mem_singleton.1 hx, hcg]; exact h
    · have hc' : ¬ i < n := by simpa using hc
      have hil : i = n := by omega
      subst hil
      rw [List.take_of_length_le (by rw [chunk_len]; exact Nat.le_refl _)] at hn
      exact ⟨by rw [idxF_none hn], _, rfl⟩

set_option maxHeartbeats 4000000 in
theorem containsFuncExpr_ok {H : AH} {v : Value} {n : Nat} {xs : List Value} {g : FuncId} {p : List CV → Bool} (hv : FRow H v kExpr n xs) (hl : n ≤ 1073741824)
    (hp : ∀ (L : AH) x, All2 (H ++ L) kExpr x → CallsA Try.prog g #[.agg x.toArray] (H ++ L) fun r H' => r = .bool (p (x.map (cv (H ++ L)))) ∧ ∃ K, H' = (H ++ L) ++ K) :
    CallsA Try.prog 78 #[v, .func (.func g) #[] #[]] H fun r H' => r = .bool ((chunk 7 (cvs H xs) n).any p) ∧ ∃ K, H' = H ++ K := by
  have e := fun Φ => (indexFuncExpr_ok hv hl hp).eqV (Φ := Φ)
  refine w78 ?_
  unfold k78
  simp -implicitDefEqProofs only [kz, kk0, kk1, kk2, kk3, ↓two_true, ↓two_false, oS_some, oM_some, mkv, aggAt, Nat.reduceLeDiff, Nat.reduceSub, Nat.reduceMul, implies_true, Nat.reduceEqDiff, reduceIte, Nat.reduceAdd, Nat.reduceBEq, reduceCtorEq, e, idxF_any]
  exact ⟨_, rfl⟩

def numsOk (l : List Int) : Bool := inB l.length 1 300 && l.all numOk

theorem numsOk1_eq {x : Int} {H : AH} {Φ : Value → AH → Prop} : CallsA Try.prog 125 #[.int .i64 x] H Φ = Φ (.bool (!numOk x)) H := by
  have : CallsA Try.prog 125 #[.int .i64 x] H fun r H' => r = .bool (!numOk x) ∧ H' = H := by
    refine w125 ?_
    unfold k125
    simp -implicitDefEqProofs only [kz, kk0, kk1, kk2, kk3, ↓two_true, ↓two_false, oS_some, oM_some, mkv, aggAt, Nat.reduceLeDiff, Nat.reduceSub, Nat.reduceMul, implies_true, Nat.reduceEqDiff, reduceIte, Nat.reduceAdd, Nat.reduceBEq, reduceCtorEq, implNumOk_eq]
  exact this.eq0

set_option maxHeartbeats 4000000 in
theorem implNumsOk_ok {H : AH} {v : Value} {l : List Int} (hv : IntRow H v l) (hl : l.length < 4611686018427387904) : CallsA Try.prog 106 #[v] H fun r H' => r = .bool (numsOk l) ∧ H' = H := by
  have ec := fun Φ => (containsFuncI_ok (H := H) hv hl (fun x H Φ => numsOk1_eq)).eq0 (Φ := Φ)
  obtain ⟨a, c, rfl, _⟩ := hv.op
  refine w106 ?_
  unfold k106
  simp -implicitDefEqProofs only [kz, kk0, kk1, kk2, kk3, ↓two_true, ↓two_false, oS_some, oM_some, mkv, aggAt, Nat.reduceLeDiff, Nat.reduceSub, Nat.reduceMul, implies_true, Nat.reduceEqDiff, reduceIte, Nat.reduceAdd, Nat.reduceBEq, reduceCtorEq, ln24, ec, within_eq]
  unfold numsOk
  refine two_intro (fun h => ?_) (fun h => ?_)
  · rw [h, any_not]; simp
  · rw [h]; rfl
theorem implNumsOk_eq {H : AH} {v : Value} (hv : OkI H v) (hl : (rowI H v).length < 4611686018427387904) {Φ : Value → AH → Prop} : CallsA Try.prog 106 #[v] H Φ = Φ (.bool (numsOk (rowI H v))) H := (implNumsOk_ok hv hl).eq0

set_option maxHeartbeats 4000000 in
theorem sameArray_ok {H : AH} {pa qa pb qb : Value} {sa da sb db : List Int} (a : AR H pa qa sa da) (b : AR H pb qb sb db) : CallsA Try.prog 15 #[.agg #[pa, qa], .agg #[pb, qb]] H fun r H' => r = .bool (sa == sb && da == db) ∧ ∃ K, H' = H ++ K := by
  have al := a.l1
  have bl := a.l2
  obtain ⟨za, zc, zb, zd, rfl, rfl⟩ := a.o1
  obtain ⟨ya, yc, yb, yd, rfl, rfl⟩ := b.o1
  have q := (LX.nil (H := H))
  refine w15 ?_
  unfold k15
  simp -implicitDefEqProofs only [kz, kk0, kk1, kk2, kk3, ↓two_true, ↓two_false, mkv, aggAt, Nat.reduceLeDiff, Nat.reduceSub, Nat.reduceMul, implies_true, Nat.reduceEqDiff, reduceIte, Nat.reduceAdd, Nat.reduceBEq, reduceCtorEq, fa26_0, fa26_1, ld24]
  refine st_box q fun H1 q1 => ?_
  simp -implicitDefEqProofs only [kz, kk0, kk1, kk2, kk3, ↓two_true, ↓two_false, mkv, aggAt, Nat.reduceLeDiff, Nat.reduceSub, Nat.reduceMul, implies_true, Nat.reduceEqDiff, reduceIte, Nat.reduceAdd, Nat.reduceBEq, reduceCtorEq, fa26_0, fa26_1, ld24, q1.rd 0 rfl]
  refine st_box q1 fun H2 q2 => ?_
  have es1 := fun Φ => (sameInts_ok (a.os.ext q2.ext) (b.os.ext q2.ext) (by (try simp only [List.length_cons, List.length_nil, List.length_append, List.length_replicate, List.length_map, List.length_take, List.length_drop]); omega)).eq0 (Φ := Φ)
  simp -implicitDefEqProofs only [kz, kk0, kk1, kk2, kk3, ↓two_true, ↓two_false, mkv, aggAt, Nat.reduceLeDiff, Nat.reduceSub, Nat.reduceMul, implies_true, Nat.reduceEqDiff, reduceIte, Nat.reduceAdd, Nat.reduceBEq, reduceCtorEq, fa26_0, fa26_1, ld24, es1, q2.rd 0 rfl, q2.rd 1 rfl]
  refine two_intro (fun u1 => ?_) (fun u1 => ?_)
  ·
    have es2 := fun Φ => (sameInts_ok (a.od.ext q2.ext) (b.od.ext q2.ext) (by (try simp only [List.length_cons, List.length_nil, List.length_append, List.length_replicate, List.length_map, List.length_take, List.length_drop]); omega)).eq0 (Φ := Φ)
    try simp -implicitDefEqProofs only [kz, kk0, kk1, kk2, kk3, ↓two_true, ↓two_false, mkv, aggAt, Nat.reduceLeDiff, Nat.reduceSub, Nat.reduceMul, implies_true, Nat.reduceEqDiff, reduceIte, Nat.reduceAdd, Nat.reduceBEq, reduceCtorEq, fa26_0, fa26_1, ld24, es1, es2, q2.rd 0 rfl, q2.rd 1 rfl]
    -- end1
    exact ⟨by rw [u1, Bool.true_and], q2.ext⟩
  ·
    try simp -implicitDefEqProofs only [kz, kk0, kk1, kk2, kk3, ↓two_true, ↓two_false, mkv, aggAt, Nat.reduceLeDiff, Nat.reduceSub, Nat.reduceMul, implies_true, Nat.reduceEqDiff, reduceIte, Nat.reduceAdd, Nat.reduceBEq, reduceCtorEq, fa26_0, fa26_1, ld24, es1, q2.rd 0 rfl, q2.rd 1 rfl]
    -- end2
    exact ⟨by rw [u1, Bool.false_and], q2.ext⟩

set_option maxHeartbeats 4000000 in
theorem at_ok {H : AH} {v : Value} {i : Nat} (hv : BRv H v) (hi : i ≤ 1000) : CallsA Try.prog 22 #[v, .int .i64 i] H fun r H' => (∃ x : Int, r = .int .i64 x ∧ 0 ≤ x ∧ x ≤ 255) ∧ H' = H := by
  obtain ⟨a, n, c, rfl, hn, hr⟩ := hv
  refine w22 ?_
  unfold k22
  have w1 : IntKind.i64.wrap ((i : Int) * 7) = (i : Int) * 7 := IntWalk.i64_in _ (by omega)
  have w2 : IntKind.i64.wrap ((i : Int) * 7 + (n : Int)) = (i : Int) * 7 + (n : Int) := IntWalk.i64_in _ (by omega)
  simp -implicitDefEqProofs only [kz, kk0, kk1, kk2, kk3, ↓two_true, ↓two_false, oS_some, oM_some, mkv, aggAt, Nat.reduceLeDiff, Nat.reduceSub, Nat.reduceMul, implies_true, Nat.reduceEqDiff, reduceIte, Nat.reduceAdd, Nat.reduceBEq, reduceCtorEq, cv5_3, ix22, ld5, ln22, w1, w2, bin_rem (show (256 : Int) ≠ 0 by decide)]
  refine two_intro (fun hlt => ?_) (fun hlt => ?_)
  · have hlt' : i < n := by simpa using hlt
    obtain ⟨b, o, cs, rfl, rfl, hb, hcell⟩ := hr (by omega)
    obtain ⟨v, hv, v0, v1⟩ := hcell i hlt'
    have hrb : rd H b = some cs := by unfold rd; rw [hb]; rfl
    simp -implicitDefEqProofs only [kz, kk0, kk1, kk2, kk3, ↓two_true, ↓two_false, oS_some, oM_some, mkv, aggAt, Nat.reduceLeDiff, Nat.reduceSub, Nat.reduceMul, implies_true, Nat.reduceEqDiff, reduceIte, Nat.reduceAdd, Nat.reduceBEq, reduceCtorEq, cv5_3, ix22, ld5, ln22, Int.toNat_natCast, Nat.mul_one, hrb, hv]
    exact ⟨⟨by omega, by omega⟩, v, by first | rfl | (rw [IntWalk.i64_in _ (by omega)]), v0, v1⟩
  · have := tmod_rng (a := (i : Int) * 7 + (n : Int)) (n := 256) (by omega) (by decide)
    exact ⟨_, rfl, this.1, by omega⟩

structure Nd where
  k : Int
  a : Int
  b : Int
  s : Int
  o : Int
  w : Int
  nums : List Int
def ndOf : List CV → Nd
  | [.i k, .i a, .i b, .i s, .i o, .i w, .r l] => ⟨k, a, b, s, o, w, l⟩
  | _ => ⟨0, 0, 0, 0, 0, 0, []⟩
def ndOk (x : Nd) : Bool :=
  (x.k == 1 && (x.a == 0 && (x.b == 0 && ((x.s == 0 && (x.o == 0 && x.w == 0)) && numsOk x.nums)))) ||
  (x.k == 2 && (inB x.a 0 25 && (x.b == 0 && ((x.s == 0 && (x.o == 0 && x.w == 0)) && (x.nums.length : Int) == 0)))) ||
  (x.k == 3 && (inB x.a 0 25 && ((x.s == 0 && (x.o == 0 && x.w == 0)) && (x.nums.length : Int) == 0))) ||
  (x.k == 4 && (x.a == 0 && (funOne x.s x.o x.w && (x.nums.length : Int) == 0))) ||
  (x.k == 5 && (funTwo x.s x.o x.w && (x.nums.length : Int) == 0))
def gI (l : List Int) (i : Int) : Int := l.getD i.toNat 0
/-- How many own nodes a node has behind those that are told. -/
def nxt (own : List Int) (x : Nd) : Option Int :=
  if x.k < 3 then some 1 else
  if (x.k = 5 ∧ x.a ≠ (own.length : Int) - 1) ∨ (x.k ≠ 5 ∧ x.b ≠ (own.length : Int) - 1) ∨ own.length = 0 then none else
  if x.k ≠ 5 then some (1 + gI own ((own.length : Int) - 1)) else
  if (own.length : Int) - 1 - gI own ((own.length : Int) - 1) < 0 ∨ x.b ≠ (own.length : Int) - 1 - gI own ((own.length : Int) - 1) then none else
  some (1 + gI own ((own.length : Int) - 1) + gI own ((own.length : Int) - 1 - gI own ((own.length : Int) - 1)))
def ownG : List Int → List Nd → Option (List Int)
  | acc, [] => some acc
  | acc, x :: t => match nxt acc x with
    | none => none
    | some k => ownG (acc ++ [k]) t
def trOk (l : List Nd) : Bool := inB l.length 1 60 && (l.all ndOk && (match ownG [] l with | some w => gI w ((l.length : Int) - 1) == l.length | none => false))
def ndL (V : List CV) (n : Nat) : List Nd := (chunk 7 V n).map ndOf
theorem ndL_len {V : List CV} {n : Nat} : (ndL V n).length = n := by simp [ndL, chunk_len]
theorem ndL_get {H : AH} {xs : List Value} {n i : Nat} (h : i < n) : (ndL (cvs H xs) n)[i]? = some (ndOf ((elm 7 xs i).map (cv H))) := by
  simp only [ndL, List.getElem?_map, chunk_get h, Option.map_some]
/-- Each node has between one and so many as stand up to it. -/
def OwB (own : List Int) : Prop := ∀ (j : Nat) x, own[j]? = some x → 1 ≤ x ∧ x ≤ j + 1
theorem OwB.nil : OwB [] := fun j x h => by simp at h
theorem gI_get {l : List Int} {i : Nat} (h : i < l.length) : l[i]? = some (gI l i) := by
  simp [gI, List.getD_eq_getElem?_getD, List.getElem?_eq_getElem h]
theorem OwB.g {own : List Int} (h : OwB own) {i : Nat} (hi : i < own.length) : 1 ≤ gI own i ∧ gI own i ≤ i + 1 := h i _ (gI_get hi)
theorem OwB.snoc {own : List Int} (h : OwB own) {k : Int} (h1 : 1 ≤ k) (h2 : k ≤ own.length + 1) : OwB (own ++ [k]) := by
  intro j x hx
  rcases Nat.lt_trichotomy j own.length with hj | hj | hj
  · rw [List.getElem?_append_left hj] at hx; exact h j x hx
  · subst hj
    simp at hx; subst hx; exact ⟨h1, h2⟩
  · rw [List.getElem?_eq_none (by simp; omega)] at hx; cases hx
theorem OwB.nxt {own : List Int} (h : OwB own) {x : Nd} {k : Int} (hk : nxt own x = some k) : OwB (own ++ [k]) := by
  unfold Go.Proofs.Ytpclegiocblpmaa.AM.nxt at hk
  split at hk
  · cases hk; exact h.snoc (by omega) (by omega)
  · split at hk
    · cases hk
    · rename_i h0
      have hl : 0 < own.length := by omega
      have e1 : (own.length : Int) - 1 = ((own.length - 1 : Nat) : Int) := by omega
      have g1 := h.g (i := own.length - 1) (by omega)
      rw [e1] at hk
      split at hk
      · cases hk; exact h.snoc (by omega) (by omega)
      · split at hk
        · cases hk
        · rename_i h2
          have e2 : ((own.length - 1 : Nat) : Int) - gI own ((own.length - 1 : Nat) : Int) = ((((own.length - 1 : Nat) : Int) - gI own ((own.length - 1 : Nat) : Int)).toNat : Int) := by omega
          have g2 := h.g (i := (((own.length - 1 : Nat) : Int) - gI own ((own.length - 1 : Nat) : Int)).toNat) (by omega)
          rw [← e2] at g2
          cases hk; exact h.snoc (by omega) (by omega)
theorem all2_expr {H : AH} {x : List Value} (h : All2 H kExpr x) : ∃ k a b s o w y, x = [.int .i64 k, .int .i64 a, .int .i64 b, .int .i64 s, .int .i64 o, .int .i64 w, y] ∧ KOk H .r y ∧ ndOf (x.map (cv H)) = ⟨k, a, b, s, o, w, rowI H y⟩ := by
  obtain ⟨y0, _, rfl, ⟨a0, rfl⟩, y1, _, rfl, ⟨a1, rfl⟩, y2, _, rfl, ⟨a2, rfl⟩, y3, _, rfl, ⟨a3, rfl⟩, y4, _, rfl, ⟨a4, rfl⟩, y6, _, rfl, ⟨a5, rfl⟩, y5, _, rfl, k5, rfl⟩ := h
  refine ⟨a0, a1, a2, a3, a4, a5, y5, rfl, k5, ?_⟩
  simp only [List.map_cons, List.map_nil, cv_row k5.1, cv_int, ndOf]

set_option maxHeartbeats 4000000 in
theorem implNodeOk_el {H : AH} {x : List Value} (hx : All2 H kExpr x) : CallsA Try.prog 80 #[.agg x.toArray] H fun r H' => r = .bool (ndOk (ndOf (x.map (cv H)))) ∧ ∃ K, H' = H ++ K := by
  obtain ⟨k, a, b, s, o, w, y, rfl, ky, e⟩ := all2_expr hx
  rw [e]
  obtain ⟨a', c', e1⟩ := ky.1.slice
  have i1 : IntRow H y (rowI H y) := ky.1
  have w1 := ky.2
  generalize rowI H y = m at *
  subst e1
  have en := fun (L : AH) Φ => implNumsOk_eq (H := H ++ L) (Φ := Φ) i1.mono.ok (by rw [i1.mono.row]; omega)
  have er := fun (L : AH) => (i1.mono (L := L)).row
  refine w80 ?_
  unfold k80
  simp -implicitDefEqProofs only [kz, kk0, kk1, kk2, kk3, ↓two_true, ↓two_false, oS_some, oM_some, mkv, aggAt, Nat.reduceLeDiff, Nat.reduceSub, Nat.reduceMul, implies_true, Nat.reduceEqDiff, reduceIte, Nat.reduceAdd, Nat.reduceBEq, reduceCtorEq, bd41, ef41, eg41, fa43_0, fa43_1, fa43_2, fa43_3, fa43_4, ld3, ld24, ld41, ln24, en, er, within_eq, implFunOne_eq, implFunTwo_eq]
  simp +contextual [two, ndOk]

set_option maxHeartbeats 4000000 in
theorem treeOk1_el {H : AH} {x : List Value} (hx : All2 H kExpr x) : CallsA Try.prog 79 #[.agg x.toArray] H fun r H' => r = .bool (!ndOk (ndOf (x.map (cv H)))) ∧ ∃ K, H' = H ++ K := by
  have hl : x.length = 7 := hx.len
  have et : x.take 7 = x := List.take_of_length_le (by omega)
  have e := fun (L : AH) Φ => (implNodeOk_el (hx.mono (L := L))).eqV (Φ := Φ)
  simp only [hx.mapcv] at e
  refine w79 ?_
  unfold k79
  simp -implicitDefEqProofs only [kz, kk0, kk1, kk2, kk3, ↓two_true, ↓two_false, oS_some, oM_some, mkv, aggAt, Nat.reduceLeDiff, Nat.reduceSub, Nat.reduceMul, implies_true, Nat.reduceEqDiff, reduceIte, Nat.reduceAdd, Nat.reduceBEq, reduceCtorEq, ld43, et, e]
  exact ⟨by omega, _, rfl⟩
theorem any_nd {V : List CV} {n : Nat} : ((chunk 7 V n).any fun V => !ndOk (ndOf V)) = !(ndL V n).all ndOk := by
  unfold ndL
  rw [List.all_map, List.not_all_eq_any_not]
  rfl
theorem oA_own1 {H : AH} {B : Blk} {v : Value} {l : List Int} {x : Int} {Φ : Value → AH → Prop} (hv : OwnRow (H ++ [B]) v l) (hl : l.length + 1 ≤ 1073741824)
    (hk : ∀ a c H', OwnRow H' (.slice a (l.length + 1) c) (l ++ [x]) → App (H ++ [B]) v H' (.slice a (l.length + 1) c) → Φ (.slice a (l.length + 1) c) H') :
    oA (app 1 v (.slice (some ⟨H.length + 1, 0, none⟩) 1 1) (H ++ [B, ⟨[.int .i64 x], .own⟩])) Φ := by
  have e : (H ++ [B, ⟨[.int .i64 x], .own⟩] : AH) = (H ++ [B]) ++ [⟨[.int .i64 x], .own⟩] := by simp
  have e2 : H.length + 1 = (H ++ [B]).length := by simp
  rw [e, e2]
  refine oA_own (hv.mono (L := [⟨[.int .i64 x], .own⟩])) intRow1 (by simpa using hl) fun a c H' o a' => hk a c H' (by simpa using o) ?_
  refine ⟨Nat.le_trans (by simp) a'.len, fun b hb hn => ?_, fun b hb => ?_⟩
  · rw [a'.keep b (by simp at hb ⊢; omega) hn, List.getElem?_append_left hb]
  · rcases a'.new b hb with h | h
    · exact .inl h
    · right; simp at h ⊢; omega
theorem ndOk_k {x : Nd} (h : ndOk x = true) : x.k = 1 ∨ x.k = 2 ∨ x.k = 3 ∨ x.k = 4 ∨ x.k = 5 := by
  unfold ndOk at h
  simp only [Bool.or_eq_true, Bool.and_eq_true, beq_iff_eq] at h
  omega

set_option maxHeartbeats 4000000 in
theorem owned_ok {H : AH} {v : Value} {n : Nat} {xs : List Value} (hv : FRow H v kExpr n xs) (hl : n ≤ 60) (hok : (ndL (cvs H xs) n).all ndOk = true) :
    CallsA Try.prog 81 #[.agg #[v]] H fun r H' => (∃ w ok, r = .tuple #[w, .bool ok] ∧ ((ok = true ∧ ∃ ow, ownG [] (ndL (cvs H xs) n) = some ow ∧ ow.length = n ∧ OwB ow ∧ OwnRow H' w ow) ∨ (ok = false ∧ ownG [] (ndL (cvs H xs) n) = none))) ∧ ∃ K, H' = H ++ K := by
  obtain ⟨a, c, rfl, gv⟩ := hv.opn 7 rfl
  generalize hL : ndL (cvs H xs) n = l at *
  have hll : l.length = n := by rw [← hL, ndL_len]
  refine w81 ?_
  unfold k81
  simp -implicitDefEqProofs only [kz, kk0, kk1, kk2, kk3, ↓two_true, ↓two_false, oS_some, oM_some, mkv, aggAt, Nat.reduceLeDiff, Nat.reduceSub, Nat.reduceMul, implies_true, Nat.reduceEqDiff, reduceIte, Nat.reduceAdd, Nat.reduceBEq, reduceCtorEq, al43, ap24_24, bs24_1, fa43_0, fa43_1, fa43_2, fa46_0, ix24, ix44, ld3, ld43, ld44, ln44, st43]
  refine rW_loop (σ := Option Addr × Nat × List Int) (fun (a', c', acc) tm H' => tm 11 = .slice a n c ∧ tm 12 = .int .i64 n ∧ tm 13 = .int .i64 acc.length ∧ tm 4 = .slice a' acc.length c' ∧ acc.length ≤ n ∧ OwnRow H' (.slice a' acc.length c') acc ∧ (∀ b, blkOf (.slice a' acc.length c') = some b → H.length ≤ b) ∧ (∃ K, H' = H ++ K) ∧ ownG [] l = ownG acc (l.drop acc.length) ∧ OwB acc) (fun s => n - s.2.2.length) (none, 0, []) ?_ ?_
  · simp -implicitDefEqProofs [kk0, kk1, kk2, kk3, rW_block, ↓two_true, ↓two_false, rW_cond, rO_guard, oS_some, oM_some, mkv, aggAt, Nat.reduceLeDiff, Nat.reduceSub, Nat.reduceMul, cond_true, cond_false, Option.bind_some, List.length_append, List.length_cons, List.length_nil, List.append_assoc, List.cons_append, List.nil_append, List.set_cons_zero, List.set_cons_succ, List.size_toArray, List.all_cons, List.all_nil, List.drop_zero, List.drop_succ_cons, List.take_succ_cons, List.take_zero, List.mem_cons, Prod.mk.injEq, List.not_mem_nil, implies_true, List.getElem?_toArray, List.getElem?_cons_zero, List.getElem?_cons_succ, List.getElem?_nil, Option.getD_some, Option.getD_none, Nat.reduceEqDiff, reduceIte, Nat.reduceAdd, List.map_toArray, List.map_cons, List.map_nil, Bool.false_eq_true, Nat.reduceBEq, Option.map_some, Option.map_none, reduceCtorEq, al43, ap24_24, bs24_1, fa43_0, fa43_1, fa43_2, fa46_0, ix24, ix44, ld3, ld43, ld44, ln44, st43, OwB.nil]
    exact ⟨.inl ⟨rfl, rfl⟩, fun b hb => by simp [blkOf] at hb⟩
  · rintro ⟨a', c', acc⟩ tm H1 ⟨h11, h12, h13, h4, hi, ho, hf, he, hown, hb⟩
    simp -implicitDefEqProofs only [kz, kk0, kk1, kk2, kk3, ↓two_true, ↓two_false, oS_some, oM_some, mkv, aggAt, Nat.reduceLeDiff, Nat.reduceSub, Nat.reduceMul, implies_true, Nat.reduceEqDiff, reduceIte, Nat.reduceAdd, Nat.reduceBEq, reduceCtorEq, al43, ap24_24, bs24_1, fa43_0, fa43_1, fa43_2, fa46_0, ix24, ix44, ld3, ld43, ld44, ln44, st43, h11, h12, h13, h4]
    refine two_intro (fun hc' => ?_) (fun hc' => ?_)
    · have hlt : acc.length < n := by simpa using hc'
      obtain ⟨b, o, cs, rfl, rfl, hrd, hle, hcell⟩ := gv (by omega)
      have x1 := hv.elemn 7 rfl hlt
      have hin : l[acc.length]? = some (ndOf ((elm 7 xs acc.length).map (cv H))) := by rw [← hL]; exact ndL_get hlt
      have hio : ndOk (ndOf ((elm 7 xs acc.length).map (cv H))) = true := (List.all_eq_true.1 hok) _ (List.mem_of_getElem? hin)
      have hdr : l.drop acc.length = ndOf ((elm 7 xs acc.length).map (cv H)) :: l.drop (acc.length + 1) := by
        have hlt2 : acc.length < l.length := by omega
        rw [List.drop_eq_getElem_cons hlt2]
        rw [List.getElem?_eq_getElem hlt2] at hin
        rw [Option.some.inj hin]
      have hlen := ext_len he
      have g1 := rd_ext hrd he
      have l1 : ld Try.prog 43 (o + acc.length * 7) cs = some (.agg (elm 7 xs acc.length).toArray) := by rw [ld43]; exact (hcell _ hlt).1
      obtain ⟨ek, ea, eb, es, eo, ew, y, ex, ky, ei⟩ := all2_expr x1
      rw [ei] at hdr hio
      generalize elm 7 xs acc.length = x at *
      subst ex
      obtain ⟨a5, c5, e5⟩ := ky.1.slice
      generalize rowI H y = m at *
      subst e5
      have hk := ndOk_k hio
      simp only at hk
      by_cases hk2 : ek = 1 ∨ ek = 2
      · have hn : nxt acc ⟨ek, ea, eb, es, eo, ew, m⟩ = some 1 := by unfold nxt; rw [if_pos (by simp only; omega)]
        have d1 : decide (ek ≥ 3) = false := decide_eq_false (by omega)
        have d2 : (ek == 5) = false := beq_eq_false_iff_ne.2 (by omega)
        simp -implicitDefEqProofs only [kz, kk0, kk1, kk2, kk3, ↓two_true, ↓two_false, oS_some, oM_some, mkv, aggAt, Nat.reduceLeDiff, Nat.reduceSub, Nat.reduceMul, implies_true, Nat.reduceEqDiff, reduceIte, Nat.reduceAdd, Nat.reduceBEq, reduceCtorEq, al43, ap24_24, bs24_1, fa43_0, fa43_1, fa43_2, fa46_0, ix24, ix44, ld3, ld43, ld44, ln44, st43, h11, h12, h13, h4, Int.toNat_natCast, Nat.mul_one, g1, l1, Int.reduceBEq, d1, d2]
        refine ⟨by omega, ?_⟩
        refine oA_own1 ho.mono (by omega) fun a6 c6 H5 o6 x7 => ?_
        have hff : ∀ b, blkOf (.slice a6 (acc.length + 1) c6) = some b → H.length ≤ b := fun b hb => by
          rcases x7.new b hb with h | h
          · exact hf b h
          · have := ext_len he; simp at h; omega
        have he5 := x7.ext (app_ext he) hf
        simp -implicitDefEqProofs only [kz, kk0, kk1, kk2, kk3, ↓two_true, ↓two_false, oS_some, oM_some, mkv, aggAt, Nat.reduceLeDiff, Nat.reduceSub, Nat.reduceMul, implies_true, Nat.reduceEqDiff, reduceIte, Nat.reduceAdd, Nat.reduceBEq, reduceCtorEq, al43, ap24_24, bs24_1, fa43_0, fa43_1, fa43_2, fa46_0, ix24, ix44, ld3, ld43, ld44, ln44, st43, h11, h12, h13, h4, IntWalk.i64_in ((acc.length : Int) + 1) (by omega)]
        refine ⟨(a6, c6, acc ++ [1]), ?_⟩
        simp only [List.length_append, List.length_cons, List.length_nil, Nat.zero_add]
        exact ⟨by omega, by simp, trivial, by omega, o6, hff, he5, by rw [hown, hdr, ownG, hn], hb.nxt hn⟩
      · have d1 : decide (ek ≥ 3) = true := decide_eq_true (by omega)
        have wi : IntKind.i64.wrap ((acc.length : Int) - 1) = (acc.length : Int) - 1 := IntWalk.i64_in _ (by omega)
        by_cases hF : (ek = 5 ∧ ea ≠ (acc.length : Int) - 1) ∨ (ek ≠ 5 ∧ eb ≠ (acc.length : Int) - 1) ∨ acc.length = 0
        · have hn : nxt acc ⟨ek, ea, eb, es, eo, ew, m⟩ = none := by unfold nxt; rw [if_neg (by simp only; omega), if_pos hF]
          have hN : ownG [] l = none := by rw [hown, hdr, ownG, hn]
          by_cases h5 : ek = 5
          · have d2 : (ek == 5) = true := by simp [h5]
            simp -implicitDefEqProofs only [kz, kk0, kk1, kk2, kk3, ↓two_true, ↓two_false, oS_some, oM_some, mkv, aggAt, Nat.reduceLeDiff, Nat.reduceSub, Nat.reduceMul, implies_true, Nat.reduceEqDiff, reduceIte, Nat.reduceAdd, Nat.reduceBEq, reduceCtorEq, al43, ap24_24, bs24_1, fa43_0, fa43_1, fa43_2, fa46_0, ix24, ix44, ld3, ld43, ld44, ln44, st43, h11, h12, h13, h4, Int.toNat_natCast, Nat.mul_one, g1, l1, Int.reduceBEq, d1, d2, wi]
            exact ⟨by omega, two_intro (fun _ => ⟨⟨_, _, rfl, .inr ⟨rfl, hN⟩⟩, app_ext he⟩) (fun q1 => two_intro (fun _ => ⟨⟨_, _, rfl, .inr ⟨rfl, hN⟩⟩, app_ext he⟩) (fun q2 => absurd hF (by simp only [bne_eq_false_iff_eq, beq_eq_false_iff_ne, ne_eq] at q1 q2; omega)))⟩
          · have d2 : (ek == 5) = false := by simp [h5]
            simp -implicitDefEqProofs only [kz, kk0, kk1, kk2, kk3, ↓two_true, ↓two_false, oS_some, oM_some, mkv, aggAt, Nat.reduceLeDiff, Nat.reduceSub, Nat.reduceMul, implies_true, Nat.reduceEqDiff, reduceIte, Nat.reduceAdd, Nat.reduceBEq, reduceCtorEq, al43, ap24_24, bs24_1, fa43_0, fa43_1, fa43_2, fa46_0, ix24, ix44, ld3, ld43, ld44, ln44, st43, h11, h12, h13, h4, Int.toNat_natCast, Nat.mul_one, g1, l1, Int.reduceBEq, d1, d2, wi]
            exact ⟨by omega, two_intro (fun _ => ⟨⟨_, _, rfl, .inr ⟨rfl, hN⟩⟩, app_ext he⟩) (fun q1 => two_intro (fun _ => ⟨⟨_, _, rfl, .inr ⟨rfl, hN⟩⟩, app_ext he⟩) (fun q2 => absurd hF (by simp only [bne_eq_false_iff_eq, beq_eq_false_iff_ne, ne_eq] at q1 q2; omega)))⟩
        · have hL0 : 0 < acc.length := by omega
          obtain ⟨b2, o2, cs2, e2, hb2, hle2, hcs2⟩ := ho.blk hL0
          simp only [Value.slice.injEq] at e2
          obtain ⟨rfl, _, rfl⟩ := e2
          have e1 : (acc.length : Int) - 1 = ((acc.length - 1 : Nat) : Int) := by omega
          have gc : ∀ j : Nat, j < acc.length → cs2[o2 + j]? = some (.int .i64 (gI acc j)) := fun j hj => hcs2 j _ (gI_get hj)
          have gb : ∀ L, rd (H1 ++ L) b2 = some cs2 := fun L => rd_own (gtl hb2)
          have wlen : IntKind.i64.wrap ((acc.length : Int) - 1) = ((acc.length - 1 : Nat) : Int) := by rw [wi, e1]
          have d0 : ((acc.length : Int) == 0) = false := beq_eq_false_iff_ne.2 (by omega)
          have gg := hb.g (i := acc.length - 1) (by omega)
          have w1 : IntKind.i64.wrap (1 + gI acc ((acc.length - 1 : Nat) : Int)) = 1 + gI acc ((acc.length - 1 : Nat) : Int) := IntWalk.i64_in _ (by omega)
          by_cases h5 : ek = 5
          · have d2 : (ek == 5) = true := by simp [h5]
            have ha : ea = ((acc.length - 1 : Nat) : Int) := by omega
            subst ha
            have w2 : IntKind.i64.wrap (((acc.length - 1 : Nat) : Int) - gI acc ((acc.length - 1 : Nat) : Int)) = ((acc.length - 1 : Nat) : Int) - gI acc ((acc.length - 1 : Nat) : Int) := IntWalk.i64_in _ (by omega)
            by_cases hS : ((acc.length - 1 : Nat) : Int) - gI acc ((acc.length - 1 : Nat) : Int) < 0 ∨ eb ≠ ((acc.length - 1 : Nat) : Int) - gI acc ((acc.length - 1 : Nat) : Int)
            · have hn : nxt acc ⟨ek, ((acc.length - 1 : Nat) : Int), eb, es, eo, ew, m⟩ = none := by unfold nxt; rw [if_neg (by simp only; omega), if_neg hF, if_neg (by simp only; omega), if_pos (by simp only; rw [e1]; exact hS)]
              have hN : ownG [] l = none := by rw [hown, hdr, ownG, hn]
              simp -implicitDefEqProofs only [kz, kk0, kk1, kk2, kk3, ↓two_true, ↓two_false, oS_some, oM_some, mkv, aggAt, Nat.reduceLeDiff, Nat.reduceSub, Nat.reduceMul, implies_true, Nat.reduceEqDiff, reduceIte, Nat.reduceAdd, Nat.reduceBEq, reduceCtorEq, al43, ap24_24, bs24_1, fa43_0, fa43_1, fa43_2, fa46_0, ix24, ix44, ld3, ld43, ld44, ln44, st43, h11, h12, h13, h4, Int.toNat_natCast, Nat.mul_one, g1, l1, Int.reduceBEq, d1, d2, wlen, bne_self_eq_false, d0, gb, gc _ (show acc.length - 1 < acc.length by omega), w1, w2]
              exact ⟨by omega, by omega, by omega, two_intro (fun _ => ⟨⟨_, _, rfl, .inr ⟨rfl, hN⟩⟩, app_ext he⟩) (fun q1 => two_intro (fun _ => ⟨⟨_, _, rfl, .inr ⟨rfl, hN⟩⟩, app_ext he⟩) (fun q2 => absurd hS (by simp only [bne_eq_false_iff_eq, decide_eq_false_iff_not, ne_eq] at q1 q2; omega)))⟩
            · obtain ⟨j, hj⟩ : ∃ j : Nat, eb = j := ⟨eb.toNat, by omega⟩
              have hj2 : ((acc.length - 1 : Nat) : Int) - gI acc ((acc.length - 1 : Nat) : Int) = j := by omega
              subst hj
              have hjl : j < acc.length := by omega
              have g2 := hb.g hjl
              have d3 : decide ((j : Int) < 0) = false := decide_eq_false (by omega)
              have wj : IntKind.i64.wrap (j : Int) = j := IntWalk.i64_in _ (by omega)
              have w3 : IntKind.i64.wrap (1 + gI acc ((acc.length - 1 : Nat) : Int) + gI acc (j : Int)) = 1 + gI acc ((acc.length - 1 : Nat) : Int) + gI acc (j : Int) := IntWalk.i64_in _ (by omega)
              have hn : nxt acc ⟨ek, ((acc.length - 1 : Nat) : Int), j, es, eo, ew, m⟩ = some (1 + gI acc ((acc.length - 1 : Nat) : Int) + gI acc (j : Int)) := by unfold nxt; rw [if_neg (by simp only; omega), if_neg hF, if_neg (by simp only; omega), if_neg (by simp only; rw [e1]; exact hS), e1, hj2]
              simp -implicitDefEqProofs only [kz, kk0, kk1, kk2, kk3, ↓two_true, ↓two_false, oS_some, oM_some, mkv, aggAt, Nat.reduceLeDiff, Nat.reduceSub, Nat.reduceMul, implies_true, Nat.reduceEqDiff, reduceIte, Nat.reduceAdd, Nat.reduceBEq, reduceCtorEq, al43, ap24_24, bs24_1, fa43_0, fa43_1, fa43_2, fa46_0, ix24, ix44, ld3, ld43, ld44, ln44, st43, h11, h12, h13, h4, Int.toNat_natCast, Nat.mul_one, g1, l1, Int.reduceBEq, d1, d2, wlen, bne_self_eq_false, d0, gb, gc _ (show acc.length - 1 < acc.length by omega), gc _ hjl, w1, w2, hj2, d3, wj, w3]
              refine ⟨by omega, by omega, by omega, by omega, ?_⟩
              refine oA_own1 ho.mono (by omega) fun a6 c6 H5 o6 x7 => ?_
              have hff : ∀ b, blkOf (.slice a6 (acc.length + 1) c6) = some b → H.length ≤ b := fun b hb => by
                rcases x7.new b hb with h | h
                · exact hf b h
                · have := ext_len he; simp at h; omega
              have he5 := x7.ext (app_ext he) hf
              simp -implicitDefEqProofs only [kz, kk0, kk1, kk2, kk3, ↓two_true, ↓two_false, oS_some, oM_some, mkv, aggAt, Nat.reduceLeDiff, Nat.reduceSub, Nat.reduceMul, implies_true, Nat.reduceEqDiff, reduceIte, Nat.reduceAdd, Nat.reduceBEq, reduceCtorEq, al43, ap24_24, bs24_1, fa43_0, fa43_1, fa43_2, fa46_0, ix24, ix44, ld3, ld43, ld44, ln44, st43, h11, h12, h13, h4, IntWalk.i64_in ((acc.length : Int) + 1) (by omega)]
              refine ⟨(a6, c6, acc ++ [1 + gI acc ((acc.length - 1 : Nat) : Int) + gI acc (j : Int)]), ?_⟩
              simp only [List.length_append, List.length_cons, List.length_nil, Nat.zero_add]
              exact ⟨by omega, by simp, trivial, by omega, o6, hff, he5, by rw [hown, hdr, ownG, hn], hb.nxt hn⟩
          · have d2 : (ek == 5) = false := by simp [h5]
            have ha : eb = ((acc.length - 1 : Nat) : Int) := by omega
            subst ha
            have hn : nxt acc ⟨ek, ea, ((acc.length - 1 : Nat) : Int), es, eo, ew, m⟩ = some (1 + gI acc ((acc.length - 1 : Nat) : Int)) := by unfold nxt; rw [if_neg (by simp only; omega), if_neg hF, if_pos (by simp only; omega), e1]
            simp -implicitDefEqProofs only [kz, kk0, kk1, kk2, kk3, ↓two_true, ↓two_false, oS_some, oM_some, mkv, aggAt, Nat.reduceLeDiff, Nat.reduceSub, Nat.reduceMul, implies_true, Nat.reduceEqDiff, reduceIte, Nat.reduceAdd, Nat.reduceBEq, reduceCtorEq, al43, ap24_24, bs24_1, fa43_0, fa43_1, fa43_2, fa46_0, ix24, ix44, ld3, ld43, ld44, ln44, st43, h11, h12, h13, h4, Int.toNat_natCast, Nat.mul_one, g1, l1, Int.reduceBEq, d1, d2, wlen, bne_self_eq_false, d0, gb, gc _ (show acc.length - 1 < acc.length by omega), w1]
            refine ⟨by omega, by omega, ?_⟩
            refine oA_own1 ho.mono (by omega) fun a6 c6 H5 o6 x7 => ?_
            have hff : ∀ b, blkOf (.slice a6 (acc.length + 1) c6) = some b → H.length ≤ b := fun b hb => by
              rcases x7.new b hb with h | h
              · exact hf b h
              · have := ext_len he; simp at h; omega
            have he5 := x7.ext (app_ext he) hf
            simp -implicitDefEqProofs only [kz, kk0, kk1, kk2, kk3, ↓two_true, ↓two_false, oS_some, oM_some, mkv, aggAt, Nat.reduceLeDiff, Nat.reduceSub, Nat.reduceMul, implies_true, Nat.reduceEqDiff, reduceIte, Nat.reduceAdd, Nat.reduceBEq, reduceCtorEq, al43, ap24_24, bs24_1, fa43_0, fa43_1, fa43_2, fa46_0, ix24, ix44, ld3, ld43, ld44, ln44, st43, h11, h12, h13, h4, IntWalk.i64_in ((acc.length : Int) + 1) (by omega)]
            refine ⟨(a6, c6, acc ++ [1 + gI acc ((acc.length - 1 : Nat) : Int)]), ?_⟩
            simp only [List.length_append, List.length_cons, List.length_nil, Nat.zero_add]
            exact ⟨by omega, by simp, trivial, by omega, o6, hff, he5, by rw [hown, hdr, ownG, hn], hb.nxt hn⟩
    · have hil : acc.length = n := by have : ¬ acc.length < n := by simpa using hc'
                                      omega
      refine ⟨⟨_, true, rfl, .inl ⟨rfl, acc, ?_, hil, hb, ho⟩⟩, he⟩
      rw [hown, List.drop_of_length_le (by omega), ownG]
theorem gI_end {w : List Int} {n : Nat} (h : w.length = n) (hn : 0 < n) : w[n - 1]? = some (gI w ((n : Int) - 1)) := by
  have := gI_get (l := w) (i := n - 1) (by omega)
  rw [this, show ((n : Int) - 1) = ((n - 1 : Nat) : Int) by omega]
theorem trOk_eq {l : List Nd} {n : Nat} (h : l.length = n) : trOk l = (inB n 1 60 && (l.all ndOk && (match ownG [] l with | some w => gI w ((n : Int) - 1) == n | none => false))) := by
  subst h; rfl

end Go.Proofs.Ytpclegiocblpmaa.AM
