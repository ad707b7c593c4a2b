/- What the functions answer, part 1. -/
import Derived.Test.YtpclegiocblpmaaK1
set_option linter.unusedVariables false
set_option linter.unusedSimpArgs false
set_option linter.defProp false
set_option maxRecDepth 100000
/- What the functions answer, part 1. -/
namespace Go.Proofs.Ytpclegiocblpmaa.AM
open Go Go.Proofs.Ytpclegiocblpmaa Go.Proofs
theorem RpA.cons {P : Program} {H : AH} {t : TypeId} {ts : List TypeId} {vs : List Value} (h : RpA P H (t :: ts) vs) : ∃ v vs', vs = v :: vs' ∧ RpV P H t v ∧ RpA P H ts vs' := by
  cases vs with
  | nil => exact h.elim
  | cons v vs => exact ⟨v, vs, rfl, h.1, h.2⟩
theorem RpA.nil {P : Program} {H : AH} {vs : List Value} (h : RpA P H [] vs) : vs = [] := by
  cases vs with
  | nil => rfl
  | cons v vs => exact h.elim
theorem Rp.int {P : Program} {H : AH} {k : Nat} {t : TypeId} {q : IntKind} {vs : List Value} (hu : P.underlying t = some (.int q)) (h : Rp P H k t vs) : ∃ n, vs = [.int q n] ∧ (Lit.int q n).wf = true := by
  cases k with
  | zero => exact h.elim
  | succ k => simpa only [Rp, hu] using h
/-- Bounds of an int. -/
def I64 (n : Int) : Prop := -9223372036854775808 ≤ n ∧ n ≤ 9223372036854775807
theorem wf_i64 {n : Int} (h : (Lit.int .i64 n).wf = true) : I64 n := by
  simp [Lit.wf, IntKind.min, IntKind.max, IntKind.bits, IntKind.signed] at h
  exact ⟨by omega, by omega⟩

def inB (x a b : Int) : Bool := decide (a ≤ x) && decide (x ≤ b)
theorem inB_true {x a b : Int} : inB x a b = true ↔ a ≤ x ∧ x ≤ b := by simp [inB]
def numOk (x : Int) : Bool := inB x (-1000000000000) 1000000000000

set_option maxHeartbeats 4000000 in
theorem l1In_ok (x a b : Int) (H : AH) : CallsA Try.prog 71 #[.int .i64 x, .int .i64 a, .int .i64 b] H fun r H' => r = .bool (inB x a b) ∧ H' = H := by
  refine w71 ?_
  unfold k71 inB
  simp -implicitDefEqProofs only [kz, kk0, kk1, kk2, kk3, ↓two_true, ↓two_false, oS_some, oM_some, mkv, aggAt, Nat.reduceLeDiff, Nat.reduceSub, Nat.reduceMul, implies_true, Nat.reduceEqDiff, reduceIte, Nat.reduceAdd, Nat.reduceBEq, reduceCtorEq]
  simp +contextual [two]
  omega
theorem l1In_eq {x a b : Int} {H : AH} {Φ : Value → AH → Prop} : CallsA Try.prog 71 #[.int .i64 x, .int .i64 a, .int .i64 b] H Φ = Φ (.bool (inB x a b)) H := (l1In_ok x a b H).eq0

set_option maxHeartbeats 4000000 in
theorem within_ok (x a b : Int) (H : AH) : CallsA Try.prog 43 #[.int .i64 x, .int .i64 a, .int .i64 b] H fun r H' => r = .bool (inB x a b) ∧ H' = H := by
  refine w43 ?_
  unfold k43 inB
  simp -implicitDefEqProofs only [kz, kk0, kk1, kk2, kk3, ↓two_true, ↓two_false, oS_some, oM_some, mkv, aggAt, Nat.reduceLeDiff, Nat.reduceSub, Nat.reduceMul, implies_true, Nat.reduceEqDiff, reduceIte, Nat.reduceAdd, Nat.reduceBEq, reduceCtorEq]
  simp +contextual [two]
  omega
theorem within_eq {x a b : Int} {H : AH} {Φ : Value → AH → Prop} : CallsA Try.prog 43 #[.int .i64 x, .int .i64 a, .int .i64 b] H Φ = Φ (.bool (inB x a b)) H := (within_ok x a b H).eq0

set_option maxHeartbeats 4000000 in
theorem specNumOk_ok (x : Int) (H : AH) : CallsA Try.prog 69 #[.int .i64 x] H fun r H' => r = .bool (numOk x) ∧ H' = H := by
  refine w69 ?_
  unfold k69 numOk
  simp -implicitDefEqProofs only [kz, kk0, kk1, kk2, kk3, ↓two_true, ↓two_false, oS_some, oM_some, mkv, aggAt, Nat.reduceLeDiff, Nat.reduceSub, Nat.reduceMul, implies_true, Nat.reduceEqDiff, reduceIte, Nat.reduceAdd, Nat.reduceBEq, reduceCtorEq, l1In_eq]
theorem specNumOk_eq {x : Int} {H : AH} {Φ : Value → AH → Prop} : CallsA Try.prog 69 #[.int .i64 x] H Φ = Φ (.bool (numOk x)) H := (specNumOk_ok x H).eq0

set_option maxHeartbeats 4000000 in
theorem implNumOk_ok (x : Int) (H : AH) : CallsA Try.prog 37 #[.int .i64 x] H fun r H' => r = .bool (numOk x) ∧ H' = H := by
  refine w37 ?_
  unfold k37 numOk
  simp -implicitDefEqProofs only [kz, kk0, kk1, kk2, kk3, ↓two_true, ↓two_false, oS_some, oM_some, mkv, aggAt, Nat.reduceLeDiff, Nat.reduceSub, Nat.reduceMul, implies_true, Nat.reduceEqDiff, reduceIte, Nat.reduceAdd, Nat.reduceBEq, reduceCtorEq, within_eq]
theorem implNumOk_eq {x : Int} {H : AH} {Φ : Value → AH → Prop} : CallsA Try.prog 37 #[.int .i64 x] H Φ = Φ (.bool (numOk x)) H := (implNumOk_ok x H).eq0

def ints (l : List Int) : List Value := l.map (.int .i64)
theorem ints_get {l : List Int} {i : Nat} (h : i < l.length) : (ints l)[i]? = some (.int .i64 l[i]) := by simp [ints, h]
/-- A slice of ints that may be read. -/
def IntRow (H : AH) (v : Value) (l : List Int) : Prop :=
  (v = .slice none 0 0 ∧ l = []) ∨ ∃ b o cs, v = .slice (some ⟨b, o, none⟩) l.length 1 ∧ rd H b = some cs ∧ o + l.length ≤ cs.length ∧ (cs.drop o).take l.length = ints l
def toI : Value → Int | .int _ n => n | _ => 0
def rowI (H : AH) : Value → List Int
  | .slice (some ⟨b, o, _⟩) n _ => ((((rd H b).getD []).drop o).take n).map toI
  | _ => []
def OkI (H : AH) (v : Value) : Prop := IntRow H v (rowI H v)
theorem IntRow.row {H : AH} {v : Value} {l : List Int} (h : IntRow H v l) : rowI H v = l := by
  rcases h with ⟨rfl, rfl⟩ | ⟨b, o, cs, rfl, h1, _, h2⟩
  · rfl
  · simp only [rowI, h1, Option.getD_some, h2, ints, List.map_map]
    have : (toI ∘ Value.int IntKind.i64) = id := by funext n; rfl
    rw [this, List.map_id]
theorem IntRow.ok {H : AH} {v : Value} {l : List Int} (h : IntRow H v l) : OkI H v := by
  unfold OkI; rw [h.row]; exact h
theorem IntRow.same {H H' : AH} {v : Value} {l : List Int} (h : IntRow H v l) (hs : ∀ b o n c, v = .slice (some ⟨b, o, none⟩) n c → rd H' b = rd H b) : IntRow H' v l := by
  rcases h with h | ⟨b, o, cs, h1, h2, h3, h4⟩
  · exact .inl h
  · exact .inr ⟨b, o, cs, h1, by rw [hs _ _ _ _ h1]; exact h2, h3, h4⟩
theorem IntRow.mono {H L : AH} {v : Value} {l : List Int} (h : IntRow H v l) : IntRow (H ++ L) v l := by
  rcases h with h | ⟨b, o, cs, h1, h2, h3, h4⟩
  · exact .inl h
  · exact .inr ⟨b, o, cs, h1, by rw [rdl (by simp [h2]), h2], h3, h4⟩
theorem OkI.mono {H L : AH} {v : Value} (h : OkI H v) : OkI (H ++ L) v := (IntRow.mono h).ok
theorem rowI_mono {H L : AH} {v : Value} (h : OkI H v) : rowI (H ++ L) v = rowI H v := (IntRow.mono h).row
theorem IntRow.op {H : AH} {v : Value} {l : List Int} (h : IntRow H v l) : ∃ a c, v = .slice a l.length c ∧ (0 < l.length → ∃ b o cs, a = some ⟨b, o, none⟩ ∧ c = 1 ∧ rd H b = some cs ∧ o + l.length ≤ cs.length ∧ ∀ i (hi : i < l.length), cs[o + i]? = some (.int .i64 l[i])) := by
  rcases h with ⟨rfl, rfl⟩ | ⟨b, o, cs, rfl, h1, h2, h3⟩
  · exact ⟨none, 0, rfl, fun h => by simp at h⟩
  · refine ⟨_, _, rfl, fun _ => ⟨b, o, cs, rfl, rfl, h1, h2, fun i hi => ?_⟩⟩
    have := ints_get hi
    rw [← h3, List.getElem?_take_of_lt hi, List.getElem?_drop] at this
    exact this
theorem OkI.nil {H : AH} : OkI H (.slice none 0 0) := .inl ⟨rfl, rfl⟩
def OwnRow (H : AH) (v : Value) (l : List Int) : Prop :=
  (v = .slice none 0 0 ∧ l = []) ∨ ∃ b o cs, v = .slice (some ⟨b, o, none⟩) l.length 1 ∧ H[b]? = some ⟨cs, .own⟩ ∧ o + l.length ≤ cs.length ∧ (cs.drop o).take l.length = ints l
theorem rd_own {H : AH} {b : Nat} {cs : List Value} (h : H[b]? = some ⟨cs, .own⟩) : rd H b = some cs := by simp [rd, h, rdB]
theorem wrt_own {H : AH} {b : Nat} {cs : List Value} (h : H[b]? = some ⟨cs, .own⟩) : wrt H b = some cs := by simp [wrt, h, wrB]
theorem OwnRow.int {H : AH} {v : Value} {l : List Int} (h : OwnRow H v l) : IntRow H v l := by
  rcases h with h | ⟨b, o, cs, h1, h2, h3, h4⟩
  · exact .inl h
  · exact .inr ⟨b, o, cs, h1, rd_own h2, h3, h4⟩
def mks (k : Int) (n : Nat) : List Int := (List.range n).map fun (i : Nat) => k + (i : Int)
theorem mks_len {k : Int} {n : Nat} : (mks k n).length = n := by simp [mks]
/-- The heap with other numbers in a row. -/
def putI (H : AH) (v : Value) (xs : List Int) : AH :=
  match v with
  | .slice (some ⟨b, o, _⟩) _ _ => H.set b ⟨splice ((wrt H b).getD []) o (ints xs), .own⟩
  | _ => H
def blkOf : Value → Option Nat
  | .slice (some ⟨b, _, _⟩) _ _ => some b
  | _ => none
theorem putI_len {H : AH} {v : Value} {xs : List Int} : (putI H v xs).length = H.length := by
  unfold putI; split <;> simp
theorem putI_get {H : AH} {v : Value} {xs : List Int} {b : Nat} (h : blkOf v ≠ some b) : (putI H v xs)[b]? = H[b]? := by
  unfold putI
  split
  · simp only [blkOf, ne_eq, Option.some.injEq] at h
    rw [List.getElem?_set_ne h]
  · rfl
theorem splice_take {xs cs : List Value} {o : Nat} (h : o + xs.length ≤ cs.length) : ((splice cs o xs).drop o).take xs.length = xs := by
  refine List.ext_getElem? fun i => ?_
  rcases Nat.lt_or_ge i xs.length with h1 | h1
  · rw [List.getElem?_take_of_lt h1, List.getElem?_drop, splice_get xs cs o (o + i) h, if_pos (by omega), Nat.add_sub_cancel_left]
  · rw [List.getElem?_eq_none (by simp; omega), List.getElem?_eq_none (by omega)]
theorem OwnRow.put {H : AH} {v : Value} {l xs : List Int} (h : OwnRow H v l) (hx : xs.length = l.length) : OwnRow (putI H v xs) v xs := by
  rcases h with ⟨rfl, rfl⟩ | ⟨b, o, cs, rfl, h2, h3, h4⟩
  · exact .inl ⟨rfl, by cases xs <;> simp_all⟩
  · refine .inr ⟨b, o, splice cs o (ints xs), by rw [hx], ?_, ?_, ?_⟩
    · have hlt := (List.getElem?_eq_some_iff.1 h2).1
      simp only [putI, wrt_own h2, Option.getD_some]
      rw [List.getElem?_set_self hlt]
    · rw [splice_length]; omega
    · have := splice_take (xs := ints xs) (cs := cs) (o := o) (by simp [ints]; omega)
      rw [show (ints xs).length = xs.length by simp [ints]] at this
      exact this
theorem OwnRow.other {H : AH} {v w : Value} {l xs : List Int} (h : OwnRow H v l) (hb : blkOf v = none ∨ blkOf w ≠ blkOf v) : OwnRow (putI H w xs) v l := by
  rcases h with h | ⟨b, o, cs, rfl, h2, h3, h4⟩
  · exact .inl h
  · refine .inr ⟨b, o, cs, rfl, ?_, h3, h4⟩
    rw [putI_get]
    · exact h2
    · rcases hb with hb | hb
      · simp [blkOf] at hb
      · simpa [blkOf] using hb
theorem OwnRow.mono {H L : AH} {v : Value} {l : List Int} (h : OwnRow H v l) : OwnRow (H ++ L) v l := by
  rcases h with h | ⟨b, o, cs, h1, h2, h3, h4⟩
  · exact .inl h
  · exact .inr ⟨b, o, cs, h1, gtl h2, h3, h4⟩
theorem list_set_set {α : Type} {l : List α} {i : Nat} {a b : α} : (l.set i a).set i b = l.set i b := by simp
/-- A slice of elements of 's' cells each, that may be read. -/
def SRow (H : AH) (v : Value) (s : Nat) (xs : List (List Value)) : Prop :=
  (v = .slice none 0 0 ∧ xs = []) ∨ ∃ b o cs, v = .slice (some ⟨b, o, none⟩) xs.length s ∧ rd H b = some cs ∧ o + xs.length * s ≤ cs.length ∧ ∀ (i : Nat) x, xs[i]? = some x → x.length = s ∧ ∀ (j : Nat) y, x[j]? = some y → cs[o + i * s + j]? = some y
def SOwn (H : AH) (v : Value) (s : Nat) (xs : List (List Value)) : Prop :=
  (v = .slice none 0 0 ∧ xs = []) ∨ ∃ b o cs, v = .slice (some ⟨b, o, none⟩) xs.length s ∧ H[b]? = some ⟨cs, .own⟩ ∧ o + xs.length * s ≤ cs.length ∧ ∀ (i : Nat) x, xs[i]? = some x → x.length = s ∧ ∀ (j : Nat) y, x[j]? = some y → cs[o + i * s + j]? = some y
theorem SOwn.row {H : AH} {v : Value} {s : Nat} {xs : List (List Value)} (h : SOwn H v s xs) : SRow H v s xs := by
  rcases h with h | ⟨b, o, cs, h1, h2, h3, h4⟩
  · exact .inl h
  · exact .inr ⟨b, o, cs, h1, rd_own h2, h3, h4⟩
theorem SRow.same {H H' : AH} {v : Value} {s : Nat} {xs : List (List Value)} (h : SRow H v s xs) (hs : ∀ b, blkOf v = some b → rd H' b = rd H b) : SRow H' v s xs := by
  rcases h with h | ⟨b, o, cs, h1, h2, h3, h4⟩
  · exact .inl h
  · exact .inr ⟨b, o, cs, h1, by rw [hs b (by rw [h1]; rfl)]; exact h2, h3, h4⟩
theorem SRow.mono {H L : AH} {v : Value} {s : Nat} {xs : List (List Value)} (h : SRow H v s xs) : SRow (H ++ L) v s xs := by
  rcases h with h | ⟨b, o, cs, h1, h2, h3, h4⟩
  · exact .inl h
  · exact .inr ⟨b, o, cs, h1, by rw [rdl (by simp [h2]), h2], h3, h4⟩
theorem SOwn.mono {H L : AH} {v : Value} {s : Nat} {xs : List (List Value)} (h : SOwn H v s xs) : SOwn (H ++ L) v s xs := by
  rcases h with h | ⟨b, o, cs, h1, h2, h3, h4⟩
  · exact .inl h
  · exact .inr ⟨b, o, cs, h1, gtl h2, h3, h4⟩
theorem SOwn.same {H H' : AH} {v : Value} {s : Nat} {xs : List (List Value)} (h : SOwn H v s xs) (hs : ∀ b, blkOf v = some b → H'[b]? = H[b]?) : SOwn H' v s xs := by
  rcases h with h | ⟨b, o, cs, h1, h2, h3, h4⟩
  · exact .inl h
  · exact .inr ⟨b, o, cs, h1, by rw [hs b (by rw [h1]; rfl)]; exact h2, h3, h4⟩
theorem row_idx {s i j i' j' : Nat} (h1 : j < s) (h2 : j' < s) (h : i * s + j = i' * s + j') : i = i' ∧ j = j' := by
  have hs : 0 < s := by omega
  have e1 : (i * s + j) / s = i := by rw [Nat.mul_comm, Nat.mul_add_div hs, Nat.div_eq_of_lt h1, Nat.add_zero]
  have e2 : (i' * s + j') / s = i' := by rw [Nat.mul_comm, Nat.mul_add_div hs, Nat.div_eq_of_lt h2, Nat.add_zero]
  have : i = i' := by rw [← e1, ← e2, h]
  subst this
  exact ⟨rfl, by omega⟩
theorem row_lt {s i n : Nat} (h : i < n) : i * s + s ≤ n * s := by
  have : (i + 1) * s ≤ n * s := Nat.mul_le_mul_right s h
  rw [Nat.add_mul, Nat.one_mul] at this
  exact this
theorem SRow.op {H : AH} {v : Value} {s : Nat} {xs : List (List Value)} (h : SRow H v s xs) : ∃ a c, v = .slice a xs.length c ∧ (0 < xs.length → ∃ b o cs, a = some ⟨b, o, none⟩ ∧ c = s ∧ rd H b = some cs ∧ o + xs.length * s ≤ cs.length ∧ ∀ (i : Nat) x, xs[i]? = some x → x.length = s ∧ ∀ (j : Nat) y, x[j]? = some y → cs[o + i * s + j]? = some y) := by
  rcases h with ⟨rfl, rfl⟩ | ⟨b, o, cs, rfl, h1, h2, h3⟩
  · exact ⟨none, 0, rfl, fun h => by simp at h⟩
  · exact ⟨_, _, rfl, fun _ => ⟨b, o, cs, rfl, rfl, h1, h2, h3⟩⟩
/-- A whole element. -/
theorem aggAt_row {cs x : List Value} {o s : Nat} (hx : x.length = s) (hlen : o + s ≤ cs.length) (h : ∀ (j : Nat) y, x[j]? = some y → cs[o + j]? = some y) : aggAt s o cs = some (.agg x.toArray) := by
  unfold aggAt
  rw [if_pos hlen]
  have : (cs.drop o).take s = x := by
    refine List.ext_getElem? fun j => ?_
    rcases Nat.lt_or_ge j s with h1 | h1
    · rw [List.getElem?_take_of_lt h1, List.getElem?_drop, h j _ (List.getElem?_eq_getElem (by omega))]
      exact (List.getElem?_eq_getElem (by omega)).symm
    · rw [List.getElem?_eq_none (by simp; omega), List.getElem?_eq_none (by omega)]
  rw [this]
/-- A cell of an element is written. -/
theorem SOwn.set {H : AH} {b o s : Nat} {cs : List Value} {xs : List (List Value)} {i j : Nat} {x : List Value} {y : Value} (hb : H[b]? = some ⟨cs, .own⟩) (hlen : o + xs.length * s ≤ cs.length)
    (hc : ∀ (i : Nat) x, xs[i]? = some x → x.length = s ∧ ∀ (j : Nat) y, x[j]? = some y → cs[o + i * s + j]? = some y) (hx : xs[i]? = some x) (hj : j < s) :
    SOwn (H.set b ⟨cs.set (o + i * s + j) y, .own⟩) (.slice (some ⟨b, o, none⟩) xs.length s) s (xs.set i (x.set j y)) := by
  have hbl : b < H.length := (List.getElem?_eq_some_iff.1 hb).1
  have hil : i < xs.length := (List.getElem?_eq_some_iff.1 hx).1
  refine .inr ⟨b, o, _, by simp, List.getElem?_set_self hbl, by simpa using hlen, ?_⟩
  intro i' x' hx'
  rw [List.getElem?_set] at hx'
  by_cases e : i = i'
  · subst e
    rw [if_pos rfl, if_pos hil] at hx'
    cases hx'
    have h0 := hc i x hx
    refine ⟨by simpa using h0.1, fun j' y' hy => ?_⟩
    rw [List.getElem?_set] at hy ⊢
    by_cases e2 : j = j'
    · subst e2
      rw [if_pos rfl, if_pos (by omega)] at hy
      cases hy
      have := row_lt (s := s) hil
      rw [if_pos rfl, if_pos (by omega)]
    · rw [if_neg e2] at hy
      rw [if_neg (by omega)]
      exact h0.2 j' y' hy
  · rw [if_neg e] at hx'
    have h0 := hc i' x' hx'
    refine ⟨h0.1, fun j' y' hy => ?_⟩
    have hj' : j' < s := by rw [← h0.1]; exact (List.getElem?_eq_some_iff.1 hy).1
    rw [List.getElem?_set, if_neg (fun h => e (row_idx hj hj' (by omega)).1)]
    exact h0.2 j' y' hy
/-- Vars, as cells: each letter's flag and its array's two rows. -/
abbrev VR3 := Bool × Value × Value
def OkV (H : AH) (x : VR3) : Prop := OkI H x.2.1 ∧ OkI H x.2.2 ∧ (rowI H x.2.1).length < 4611686018427387904 ∧ (rowI H x.2.2).length < 4611686018427387904
theorem OkV.mono {H L : AH} {x : VR3} (h : OkV H x) : OkV (H ++ L) x := ⟨h.1.mono, h.2.1.mono, by rw [rowI_mono h.1]; exact h.2.2.1, by rw [rowI_mono h.2.1]; exact h.2.2.2⟩
def Dj (v w : Value) : Prop := ∀ b, blkOf v = some b → blkOf w ≠ some b
theorem Dj.symm {v w : Value} (h : Dj v w) : Dj w v := fun b h1 h2 => h b h2 h1
theorem OwnRow.same {H H' : AH} {v : Value} {l : List Int} (h : OwnRow H v l) (hs : ∀ b, blkOf v = some b → H'[b]? = H[b]?) : OwnRow H' v l := by
  rcases h with h | ⟨b, o, cs, h1, h2, h3, h4⟩
  · exact .inl h
  · exact .inr ⟨b, o, cs, h1, by rw [hs b (by rw [h1]; rfl)]; exact h2, h3, h4⟩
theorem OwnRow.rowI {H : AH} {v : Value} {l : List Int} (h : OwnRow H v l) : rowI H v = l := h.int.row
theorem putI_dj {H : AH} {v w : Value} {l : List Int} (h : Dj v w) : ∀ b, blkOf w = some b → (putI H v l)[b]? = H[b]? := fun b hb => putI_get fun h2 => h b h2 hb
theorem OwnRow.isSlice {H : AH} {v : Value} {l : List Int} (h : OwnRow H v l) : ∃ a c, v = .slice a l.length c := by
  obtain ⟨a, c, h1, _⟩ := h.int.op
  exact ⟨a, c, h1⟩
inductive CV where
  | i (n : Int)
  | b (x : Bool)
  | r (l : List Int)
  deriving DecidableEq
inductive CK where
  | i
  | b
  | r
  | w
def cv (H : AH) : Value → CV
  | .int _ n => .i n
  | .bool x => .b x
  | v => .r (rowI H v)
def KOk (H : AH) : CK → Value → Prop
  | .i, y => ∃ n, y = .int .i64 n
  | .b, y => ∃ x, y = .bool x
  | .r, y => OkI H y ∧ (rowI H y).length < 1073741825
  | .w, y => OkI H y ∧ (rowI H y).length ≤ 9223372036854775807
def All2 (H : AH) : List CK → List Value → Prop
  | [], x => x = []
  | k :: ks, x => ∃ y r, x = y :: r ∧ KOk H k y ∧ All2 H ks r
theorem OkI.slice {H : AH} {y : Value} (h : OkI H y) : ∃ a c, y = .slice a (rowI H y).length c := by
  obtain ⟨a, c, e, _⟩ := IntRow.op h
  exact ⟨a, c, e⟩
theorem cv_row {H : AH} {y : Value} (h : OkI H y) : cv H y = .r (rowI H y) := by
  obtain ⟨a, c, e⟩ := h.slice
  rw [e]; rfl
theorem rowI_same {H H' : AH} {v : Value} (hs : ∀ b, blkOf v = some b → rd H' b = rd H b) : rowI H' v = rowI H v := by
  unfold rowI
  split
  · rename_i b o a n c
    rw [hs b rfl]
  · rfl
theorem OkI.same {H H' : AH} {v : Value} (h : OkI H v) (hs : ∀ b, blkOf v = some b → rd H' b = rd H b) : OkI H' v := (IntRow.same h fun b o n c e => hs b (by rw [e]; rfl)).ok
theorem cv_same {H H' : AH} {v : Value} (hs : ∀ b, blkOf v = some b → rd H' b = rd H b) : cv H' v = cv H v := by
  unfold cv
  split
  · rfl
  · rfl
  · rw [rowI_same hs]
theorem KOk.same {H H' : AH} {k : CK} {v : Value} (h : KOk H k v) (hs : ∀ b, blkOf v = some b → rd H' b = rd H b) : KOk H' k v := by
  cases k with
  | i => exact h
  | b => exact h
  | r => exact ⟨h.1.same hs, by rw [rowI_same hs]; exact h.2⟩
  | w => exact ⟨h.1.same hs, by rw [rowI_same hs]; exact h.2⟩
theorem KOk.rdable {H : AH} {k : CK} {v : Value} (h : KOk H k v) : ∀ b, blkOf v = some b → (rd H b).isSome = true := by
  intro b hb
  cases k with
  | i => obtain ⟨n, rfl⟩ := h; simp [blkOf] at hb
  | b => obtain ⟨n, rfl⟩ := h; simp [blkOf] at hb
  | r =>
    rcases h.1 with ⟨e, _⟩ | ⟨b', o, cs, e, h2, _⟩
    · rw [e] at hb; simp [blkOf] at hb
    · rw [e] at hb; simp [blkOf] at hb; subst hb; simp [h2]
  | w =>
    rcases h.1 with ⟨e, _⟩ | ⟨b', o, cs, e, h2, _⟩
    · rw [e] at hb; simp [blkOf] at hb
    · rw [e] at hb; simp [blkOf] at hb; subst hb; simp [h2]
theorem KOk.mono {H L : AH} {k : CK} {v : Value} (h : KOk H k v) : KOk (H ++ L) k v := h.same fun b hb => rdl (h.rdable b hb)
theorem cv_mono {H L : AH} {k : CK} {v : Value} (h : KOk H k v) : cv (H ++ L) v = cv H v := cv_same fun b hb => rdl (h.rdable b hb)
theorem All2.len {H : AH} : ∀ {ks : List CK} {x : List Value}, All2 H ks x → x.length = ks.length
  | [], x, h => by cases h; rfl
  | k :: ks, x, ⟨y, r, e, _, h⟩ => by rw [e, List.length_cons, h.len, List.length_cons]
theorem All2.get {H : AH} : ∀ {ks : List CK} {x : List Value}, All2 H ks x → ∀ (c : Nat) k y, ks[c]? = some k → x[c]? = some y → KOk H k y
  | [], x, h, c, k, y, hk, _ => by simp at hk
  | k :: ks, x, ⟨y, r, e, h1, h⟩, 0, k', y', hk, hy => by
    subst e; simp at hk hy; subst hk; subst hy; exact h1
  | k :: ks, x, ⟨y, r, e, h1, h⟩, c + 1, k', y', hk, hy => by
    subst e; simp at hk hy; exact h.get c k' y' hk hy
theorem All2.of {H : AH} : ∀ {ks : List CK} {x : List Value}, x.length = ks.length → (∀ (c : Nat) k y, ks[c]? = some k → x[c]? = some y → KOk H k y) → All2 H ks x
  | [], x, hl, _ => by
    cases x with
    | nil => rfl
    | cons y r => simp at hl
  | k :: ks, x, hl, h => by
    cases x with
    | nil => simp at hl
    | cons y r => exact ⟨y, r, rfl, h 0 k y rfl rfl, All2.of (by simpa using hl) fun c k' y' hk hy => h (c + 1) k' y' (by simpa using hk) (by simpa using hy)⟩
theorem All2.mono {H L : AH} {ks : List CK} {x : List Value} (h : All2 H ks x) : All2 (H ++ L) ks x := All2.of h.len fun c k y hk hy => (h.get c k y hk hy).mono
theorem All2.mapcv {H L : AH} {ks : List CK} {x : List Value} (h : All2 H ks x) : x.map (cv (H ++ L)) = x.map (cv H) := by
  refine List.map_congr_left fun y hy => ?_
  obtain ⟨c, hc, e⟩ := List.mem_iff_getElem.1 hy
  have hl := h.len
  exact cv_mono (h.get c ks[c] y (List.getElem?_eq_getElem (by omega)) (by rw [List.getElem?_eq_getElem hc, e]))
def cvs (H : AH) (xs : List Value) : List CV := xs.map (cv H)
/-- A slice of 'n' elements with cells of the kinds 'ks' each, that may be read; its cells are 'xs'. -/
structure FRow (H : AH) (v : Value) (ks : List CK) (n : Nat) (xs : List Value) : Prop where
  len : xs.length = n * ks.length
  row : (v = .slice none 0 0 ∧ n = 0) ∨ ∃ b o cs, v = .slice (some ⟨b, o, none⟩) n ks.length ∧ rd H b = some cs ∧ o + n * ks.length ≤ cs.length ∧ ∀ (j : Nat) y, xs[j]? = some y → cs[o + j]? = some y
  ok : ∀ (i c : Nat) k y, i < n → ks[c]? = some k → xs[i * ks.length + c]? = some y → KOk H k y
theorem FRow.cell {H : AH} {v : Value} {ks : List CK} {n : Nat} {xs : List Value} (h : FRow H v ks n xs) {j : Nat} {y : Value} (hy : xs[j]? = some y) : ∃ k, KOk H k y := by
  have hj := (List.getElem?_eq_some_iff.1 hy).1
  rw [h.len] at hj
  have hk : 0 < ks.length := by
    rcases Nat.eq_zero_or_pos ks.length with e | e
    · rw [e] at hj; omega
    · exact e
  have h1 : j / ks.length < n := Nat.div_lt_of_lt_mul (by rw [Nat.mul_comm]; exact hj)
  have h2 : j % ks.length < ks.length := Nat.mod_lt _ hk
  refine ⟨_, h.ok (j / ks.length) (j % ks.length) _ y h1 (List.getElem?_eq_getElem h2) ?_⟩
  rw [Nat.mul_comm, Nat.div_add_mod]; exact hy
theorem FRow.same {H H' : AH} {v : Value} {ks : List CK} {n : Nat} {xs : List Value} (h : FRow H v ks n xs) (hs : ∀ b, (blkOf v = some b ∨ ∃ y ∈ xs, blkOf y = some b) → rd H' b = rd H b) : FRow H' v ks n xs := by
  refine ⟨h.len, ?_, fun i c k y hi hk hy => (h.ok i c k y hi hk hy).same fun b hb => hs b (.inr ⟨y, List.mem_of_getElem? hy, hb⟩)⟩
  rcases h.row with h1 | ⟨b, o, cs, h1, h2, h3⟩
  · exact .inl h1
  · exact .inr ⟨b, o, cs, h1, by rw [hs b (.inl (by rw [h1]; rfl))]; exact h2, h3⟩
theorem FRow.cvs_same {H H' : AH} {xs : List Value} (hs : ∀ b, (∃ y ∈ xs, blkOf y = some b) → rd H' b = rd H b) : cvs H' xs = cvs H xs :=
  List.map_congr_left fun y hy => cv_same fun b hb => hs b ⟨y, hy, hb⟩
theorem FRow.rdable {H : AH} {v : Value} {ks : List CK} {n : Nat} {xs : List Value} (h : FRow H v ks n xs) : ∀ b, (blkOf v = some b ∨ ∃ y ∈ xs, blkOf y = some b) → (rd H b).isSome = true := by
  rintro b (hb | ⟨y, hy, hb⟩)
  · rcases h.row with ⟨h1, _⟩ | ⟨b', o, cs, h1, h2, h3⟩
    · rw [h1] at hb; simp [blkOf] at hb
    · rw [h1] at hb; simp [blkOf] at hb; subst hb; simp [h2]
  · obtain ⟨j, hj⟩ := List.mem_iff_getElem?.1 hy
    obtain ⟨k, hk⟩ := h.cell hj
    exact hk.rdable b hb
theorem FRow.mono {H L : AH} {v : Value} {ks : List CK} {n : Nat} {xs : List Value} (h : FRow H v ks n xs) : FRow (H ++ L) v ks n xs := h.same fun b hb => rdl (h.rdable b hb)
theorem FRow.vals {H L : AH} {v : Value} {ks : List CK} {n : Nat} {xs : List Value} (h : FRow H v ks n xs) : cvs (H ++ L) xs = cvs H xs := FRow.cvs_same fun b hb => rdl (h.rdable b (.inr hb))
/-- What an element is. -/
def elm (s : Nat) (xs : List Value) (i : Nat) : List Value := (xs.drop (i * s)).take s
theorem elm_get {s : Nat} {xs : List Value} {i c : Nat} (hc : c < s) : (elm s xs i)[c]? = xs[i * s + c]? := by
  unfold elm
  rw [List.getElem?_take_of_lt hc, List.getElem?_drop]
theorem FRow.elem {H : AH} {v : Value} {ks : List CK} {n : Nat} {xs : List Value} (h : FRow H v ks n xs) {i : Nat} (hi : i < n) : All2 H ks (elm ks.length xs i) := by
  have hl := h.len
  have hr := row_lt (s := ks.length) hi
  refine All2.of ?_ fun c k y hk hy => ?_
  · simp [elm]; omega
  · have hc := (List.getElem?_eq_some_iff.1 hk).1
    rw [elm_get hc] at hy
    exact h.ok i c k y hi hk hy
theorem FRow.op {H : AH} {v : Value} {ks : List CK} {n : Nat} {xs : List Value} (h : FRow H v ks n xs) : ∃ a c, v = .slice a n c ∧ (0 < n → ∃ b o cs, a = some ⟨b, o, none⟩ ∧ c = ks.length ∧ rd H b = some cs ∧ o + n * ks.length ≤ cs.length ∧
    ∀ i, i < n → aggAt ks.length (o + i * ks.length) cs = some (.agg (elm ks.length xs i).toArray) ∧ ∀ (c : Nat) y, (elm ks.length xs i)[c]? = some y → cs[o + i * ks.length + c]? = some y) := by
  have hl := h.len
  rcases h.row with ⟨rfl, rfl⟩ | ⟨b, o, cs, rfl, h1, h2, h3⟩
  · exact ⟨none, 0, rfl, fun h => by omega⟩
  · refine ⟨_, _, rfl, fun _ => ⟨b, o, cs, rfl, rfl, h1, h2, fun i hi => ?_⟩⟩
    have hr := row_lt (s := ks.length) hi
    have hc : ∀ (c : Nat) y, (elm ks.length xs i)[c]? = some y → cs[o + i * ks.length + c]? = some y := by
      intro c y hy
      have hlt : c < ks.length := by
        have := (List.getElem?_eq_some_iff.1 hy).1
        simp [elm] at this
        omega
      rw [elm_get hlt] at hy
      rw [Nat.add_assoc]
      exact h3 _ y hy
    refine ⟨aggAt_row (h.elem hi).len (by omega) hc, hc⟩
/-- A row whose cells own what they point to, each by itself. -/
def OwnC (H : AH) (y : Value) : Prop := (∃ n, y = .int .i64 n) ∨ (∃ x, y = .bool x) ∨ OwnRow H y (rowI H y)
structure OT (H : AH) (v : Value) (ks : List CK) (n : Nat) (xs : List Value) : Prop where
  len : xs.length = n * ks.length
  row : (v = .slice none 0 0 ∧ n = 0) ∨ ∃ b o cs, v = .slice (some ⟨b, o, none⟩) n ks.length ∧ H[b]? = some ⟨cs, .own⟩ ∧ o + n * ks.length ≤ cs.length ∧ ∀ (j : Nat) y, xs[j]? = some y → cs[o + j]? = some y
  ok : ∀ (i c : Nat) k y, i < n → ks[c]? = some k → xs[i * ks.length + c]? = some y → KOk H k y
  own : ∀ (j : Nat) y, xs[j]? = some y → OwnC H y
  out : ∀ (j : Nat) y, xs[j]? = some y → Dj v y
  dif : ∀ (i j : Nat) x y, i ≠ j → xs[i]? = some x → xs[j]? = some y → Dj x y
theorem OT.frow {H : AH} {v : Value} {ks : List CK} {n : Nat} {xs : List Value} (h : OT H v ks n xs) : FRow H v ks n xs := by
  refine ⟨h.len, ?_, h.ok⟩
  rcases h.row with h1 | ⟨b, o, cs, h1, h2, h3⟩
  · exact .inl h1
  · exact .inr ⟨b, o, cs, h1, rd_own h2, h3⟩
theorem get_rd {H H' : AH} {b : Nat} (h : H'[b]? = H[b]?) : rd H' b = rd H b := by unfold rd; rw [h]
theorem OwnC.same {H H' : AH} {y : Value} (h : OwnC H y) (hs : ∀ b, blkOf y = some b → H'[b]? = H[b]?) : OwnC H' y := by
  rcases h with h | h | h
  · exact .inl h
  · exact .inr (.inl h)
  · have := h.same hs
    exact .inr (.inr (by rw [this.rowI]; exact this))
theorem OT.same {H H' : AH} {v : Value} {ks : List CK} {n : Nat} {xs : List Value} (h : OT H v ks n xs) (hs : ∀ b, (blkOf v = some b ∨ ∃ y ∈ xs, blkOf y = some b) → H'[b]? = H[b]?) : OT H' v ks n xs := by
  refine ⟨h.len, ?_, (h.frow.same fun b hb => get_rd (hs b hb)).ok, fun j y hy => (h.own j y hy).same fun b hb => hs b (.inr ⟨y, List.mem_of_getElem? hy, hb⟩), h.out, h.dif⟩
  rcases h.row with h1 | ⟨b, o, cs, h1, h2, h3⟩
  · exact .inl h1
  · exact .inr ⟨b, o, cs, h1, by rw [hs b (.inl (by rw [h1]; rfl))]; exact h2, h3⟩
theorem OwnRow.lt {H : AH} {v : Value} {l : List Int} (h : OwnRow H v l) : ∀ b, blkOf v = some b → b < H.length := by
  rcases h with ⟨rfl, _⟩ | ⟨b, o, cs, rfl, h2, _⟩
  · intro b h; simp [blkOf] at h
  · intro b' h
    simp [blkOf] at h
    subst h
    exact (List.getElem?_eq_some_iff.1 h2).1
theorem OwnC.lt {H : AH} {y : Value} (h : OwnC H y) : ∀ b, blkOf y = some b → b < H.length := by
  rcases h with ⟨n, rfl⟩ | ⟨n, rfl⟩ | h
  · intro b h; simp [blkOf] at h
  · intro b h; simp [blkOf] at h
  · exact h.lt
theorem OT.lt {H : AH} {v : Value} {ks : List CK} {n : Nat} {xs : List Value} (h : OT H v ks n xs) : ∀ b, (blkOf v = some b ∨ ∃ y ∈ xs, blkOf y = some b) → b < H.length := by
  rintro b (hb | ⟨y, hy, hb⟩)
  · rcases h.row with ⟨h1, _⟩ | ⟨b', o, cs, h1, h2, h3⟩
    · rw [h1] at hb; simp [blkOf] at hb
    · rw [h1] at hb; simp [blkOf] at hb; subst hb; exact (List.getElem?_eq_some_iff.1 h2).1
  · obtain ⟨j, hj⟩ := List.mem_iff_getElem?.1 hy
    exact (h.own j y hj).lt b hb
theorem OT.mono {H L : AH} {v : Value} {ks : List CK} {n : Nat} {xs : List Value} (h : OT H v ks n xs) : OT (H ++ L) v ks n xs := h.same fun b hb => List.getElem?_append_left (h.lt b hb)
def cnt1 : CV → Nat | .i _ => 1 | .b _ => 1 | .r l => l.length
def mark1 : CV → Int → CV | .i _, k => .i k | .b _, k => .b (k % 3 == 0) | .r l, k => .r (mks k l.length)
def markF : List CV → Int → List CV
  | [], _ => []
  | x :: r, k => mark1 x k :: markF r (k + cnt1 x)
def cntF (l : List CV) : Nat := (l.map cnt1).sum
theorem markF_append : ∀ (l m : List CV) (k : Int), markF (l ++ m) k = markF l k ++ markF m (k + cntF l)
  | [], m, k => by simp [markF, cntF]
  | x :: l, m, k => by
    simp only [List.cons_append, markF, markF_append l m]
    rw [show k + (cnt1 x : Int) + cntF l = k + cntF (x :: l) by simp only [cntF, List.map_cons, List.sum_cons]; omega]
theorem cntF_append {l m : List CV} : cntF (l ++ m) = cntF l + cntF m := by simp [cntF]
theorem markF_len : ∀ (l : List CV) (k : Int), (markF l k).length = l.length
  | [], _ => rfl
  | x :: l, k => by simp [markF, markF_len l]
structure MC (H : AH) (v : Value) (ks : List CK) (n : Nat) (xs : List Value) (k : Int) (p : Nat) (q : Int) (ys : List Value) (H' : AH) : Prop where
  ot : OT H' v ks n ys
  blk : ys.map blkOf = xs.map blkOf
  len : H'.length = H.length
  frame : ∀ b, ¬ (blkOf v = some b ∨ ∃ y ∈ xs, blkOf y = some b) → H'[b]? = H[b]?
  vals : cvs H' ys = markF ((cvs H xs).take p) k ++ (cvs H xs).drop p
  cnt : q = k + cntF ((cvs H xs).take p)
theorem MC.done {H H' : AH} {v : Value} {ks : List CK} {n p : Nat} {xs ys : List Value} {k q : Int} (h : MC H v ks n xs k p q ys H') (hp : xs.length ≤ p) : cvs H' ys = markF (cvs H xs) k ∧ q = k + cntF (cvs H xs) := by
  have e : (cvs H xs).take p = cvs H xs := List.take_of_length_le (by simp [cvs]; omega)
  have e2 : (cvs H xs).drop p = [] := List.drop_of_length_le (by simp [cvs]; omega)
  have h1 := h.vals
  have h2 := h.cnt
  rw [e] at h1 h2
  rw [e2, List.append_nil] at h1
  exact ⟨h1, h2⟩
theorem MC.bk {H H' : AH} {v : Value} {ks : List CK} {n p : Nat} {xs ys : List Value} {k q : Int} (h : MC H v ks n xs k p q ys H') {b : Nat} : (∃ y ∈ ys, blkOf y = some b) ↔ ∃ y ∈ xs, blkOf y = some b := by
  have e : ∀ zs : List Value, (∃ y ∈ zs, blkOf y = some b) ↔ some b ∈ zs.map blkOf := by
    intro zs; simp only [List.mem_map]
  rw [e, e, h.blk]
theorem MC.rest {H H' : AH} {v : Value} {ks : List CK} {n p : Nat} {xs ys : List Value} {k q : Int} (h : MC H v ks n xs k p q ys H') {y : Value} (hy : ys[p]? = some y) : (cvs H xs)[p]? = some (cv H' y) := by
  have h1 := congrArg (fun l : List CV => l[p]?) h.vals
  have hl : ys.length = xs.length := by have := congrArg List.length h.blk; simpa using this
  have hp := (List.getElem?_eq_some_iff.1 hy).1
  have e : (markF ((cvs H xs).take p) k).length = p := by rw [markF_len]; simp [cvs]; omega
  simp only [List.getElem?_append_right (Nat.le_of_eq e), e, Nat.sub_self, List.getElem?_drop, Nat.add_zero] at h1
  rw [← h1]
  simp [cvs, hy]
theorem MC.take {H H' : AH} {v : Value} {ks : List CK} {n p : Nat} {xs ys : List Value} {k q : Int} (h : MC H v ks n xs k p q ys H') {y : Value} (hy : ys[p]? = some y) :
    (cvs H xs).take (p + 1) = (cvs H xs).take p ++ [cv H' y] ∧ (cvs H xs).drop p = cv H' y :: (cvs H xs).drop (p + 1) := by
  have h1 := h.rest hy
  obtain ⟨h2, h3⟩ := List.getElem?_eq_some_iff.1 h1
  rw [← h3]
  exact ⟨List.take_succ_eq_append_getElem h2, List.drop_eq_getElem_cons h2⟩
/-- A cell that is a row of ints is written. -/
theorem MC.ints {H H' : AH} {v : Value} {ks : List CK} {n p : Nat} {xs ys : List Value} {k q : Int} (h : MC H v ks n xs k p q ys H') {y : Value} (hy : ys[p]? = some y) (ho : OwnRow H' y (rowI H' y)) (hok : OkI H' y) :
    MC H v ks n xs k (p + 1) (q + (rowI H' y).length) ys (putI H' y (mks q (rowI H' y).length)) := by
  have hp := (List.getElem?_eq_some_iff.1 hy).1
  have hput := ho.put (xs := mks q (rowI H' y).length) mks_len
  have hsy : ∀ (j : Nat) w, j ≠ p → ys[j]? = some w → ∀ g, blkOf w = some g → (putI H' y (mks q (rowI H' y).length))[g]? = H'[g]? := fun j w hj hw => putI_dj (h.ot.dif p j y w (Ne.symm hj) hy hw)
  refine ⟨⟨h.ot.len, ?_, ?_, ?_, h.ot.out, h.ot.dif⟩, h.blk, by rw [putI_len, h.len], ?_, ?_, ?_⟩
  · rcases h.ot.row with h1 | ⟨b, o, cs, h1, h2, h3⟩
    · exact .inl h1
    · refine .inr ⟨b, o, cs, h1, ?_, h3⟩
      rw [putI_get (h.ot.out p y hy b (by rw [h1]; rfl))]
      exact h2
  · intro i c k' w hi hk hw
    have hold := h.ot.ok i c k' w hi hk hw
    by_cases e : i * ks.length + c = p
    · rw [e, hy] at hw
      cases hw
      cases k' with
      | i => obtain ⟨m, rfl⟩ := hold; obtain ⟨a, c, e⟩ := hok.slice; cases e
      | b => obtain ⟨m, rfl⟩ := hold; obtain ⟨a, c, e⟩ := hok.slice; cases e
      | r => exact ⟨hput.int.ok, by rw [hput.rowI, mks_len]; exact hold.2⟩
      | w => exact ⟨hput.int.ok, by rw [hput.rowI, mks_len]; exact hold.2⟩
    · exact hold.same fun g hg => get_rd (hsy _ w e hw g hg)
  · intro j w hw
    by_cases e : j = p
    · subst e
      rw [hy] at hw; cases hw
      exact .inr (.inr (by rw [hput.rowI]; exact hput))
    · exact (h.ot.own j w hw).same (hsy j w e hw)
  · intro g hg
    rw [putI_get, h.frame g hg]
    intro e
    exact hg (.inr (h.bk.1 ⟨y, List.mem_of_getElem? hy, e⟩))
  · obtain ⟨e1, e2⟩ := h.take hy
    have e3 : cvs (putI H' y (mks q (rowI H' y).length)) ys = (cvs H' ys).set p (.r (mks q (rowI H' y).length)) := by
      refine List.ext_getElem? fun j => ?_
      simp only [cvs, List.getElem?_map, List.getElem?_set, List.length_map]
      split
      · rename_i e
        subst e
        rw [hy, Option.map_some, cv_row hput.int.ok, hput.rowI]
      · rename_i e
        cases hj : ys[j]? with
        | none => rfl
        | some w => simp only [Option.map_some, cv_same fun g hg => get_rd (hsy j w (Ne.symm e) hj g hg)]
    have e4 : (markF ((cvs H xs).take p) k).length = p := by
      rw [markF_len]
      have := congrArg List.length h.blk
      simp [cvs] at this ⊢
      omega
    rw [e3, h.vals, e1, markF_append, List.set_append_right _ _ (by omega), e4, Nat.sub_self, e2, List.set_cons_zero, List.append_assoc]
    congr 1
    rw [cv_row hok]
    have hcn := h.cnt
    simp only [markF, mark1, List.singleton_append, List.cons.injEq, and_true, ← hcn]
  · obtain ⟨e1, e2⟩ := h.take hy
    rw [e1, cntF_append, h.cnt, cv_row hok]
    simp only [cntF, List.map_cons, List.map_nil, List.sum_cons, List.sum_nil, cnt1]; omega

theorem ext_of {H H' : AH} (hl : H.length ≤ H'.length) (hk : ∀ b, b < H.length → H'[b]? = H[b]?) : ∃ K, H' = H ++ K := by
  refine ⟨H'.drop H.length, List.ext_getElem? fun b => ?_⟩
  rcases Nat.lt_or_ge b H.length with h | h
  · rw [List.getElem?_append_left h, hk b h]
  · rw [List.getElem?_append_right h, List.getElem?_drop, Nat.add_sub_cancel' h]
/-- What append leaves of the heap. -/
structure App (H : AH) (v : Value) (H' : AH) (v' : Value) : Prop where
  len : H.length ≤ H'.length
  keep : ∀ b, b < H.length → blkOf v ≠ some b → H'[b]? = H[b]?
  new : ∀ b, blkOf v' = some b → blkOf v = some b ∨ H.length ≤ b
theorem App.ext {H0 H H' : AH} {v v' : Value} (h : App H v H' v') (h0 : ∃ K, H = H0 ++ K) (hv : ∀ b, blkOf v = some b → H0.length ≤ b) : ∃ K, H' = H0 ++ K := by
  obtain ⟨K, rfl⟩ := h0
  have hl := h.len
  rw [List.length_append] at hl
  refine ext_of (by omega) fun b hb => ?_
  rw [h.keep b (by rw [List.length_append]; omega) (fun e => by have := hv b e; omega), List.getElem?_append_left hb]
theorem IntRow.cl {H : AH} {v : Value} {l : List Int} (h : IntRow H v l) : cl H 1 v = some (ints l) ∧ lenS v = l.length := by
  rcases h with ⟨rfl, rfl⟩ | ⟨b, o, cs, rfl, h1, h2, h3⟩
  · exact ⟨rfl, rfl⟩
  · refine ⟨?_, rfl⟩
    simp only [Go.Proofs.Ytpclegiocblpmaa.AM.cl, h1, Option.bind_some, Nat.mul_one, if_pos h2, h3]
theorem OwnRow.ownOk {H : AH} {v : Value} {l : List Int} (h : OwnRow H v l) : Go.Proofs.Ytpclegiocblpmaa.AM.ownOk v 1 H = true := by
  rcases h with ⟨rfl, rfl⟩ | ⟨b, o, cs, rfl, h1, h2, h3⟩
  · rfl
  · simp [Go.Proofs.Ytpclegiocblpmaa.AM.ownOk, h1]
theorem ints_leaf {l : List Int} : (ints l).all leaf = true := by
  simp [ints, leaf]
theorem ints_app {l m : List Int} : ints l ++ ints m = ints (l ++ m) := by simp [ints]
theorem kill_keep {H : AH} {v : Value} {b : Nat} (h : blkOf v ≠ some b) : (kill v H)[b]? = H[b]? := by
  unfold kill
  split
  · rename_i a n c
    rw [List.getElem?_set_ne]
    intro e
    apply h
    rw [← e]
    rfl
  · rfl
theorem kill_len2 {H : AH} {v : Value} : (kill v H).length = H.length := by unfold kill; split <;> simp
theorem oA_own {H : AH} {v w : Value} {l m : List Int} {Φ : Value → AH → Prop} (hv : OwnRow H v l) (hw : IntRow H w m) (hl : l.length + m.length ≤ 1073741824)
    (h : ∀ a c H', OwnRow H' (.slice a (l.length + m.length) c) (l ++ m) → App H v H' (.slice a (l.length + m.length) c) → Φ (.slice a (l.length + m.length) c) H') : oA (app 1 v w H) Φ := by
  obtain ⟨c1, c2⟩ := hv.int.cl
  obtain ⟨c3, c4⟩ := hw.cl
  unfold app
  rw [c1, c3]
  simp only [c2, c4]
  by_cases hm : m.length = 0
  · rw [if_pos hm]
    have : m = [] := List.eq_nil_of_length_eq_zero hm
    subst this
    obtain ⟨a, c, e⟩ := (show ∃ a c, v = .slice a l.length c by obtain ⟨a, c, h1, _⟩ := hv.int.op; exact ⟨a, c, h1⟩)
    subst e
    have := h a c H (by simpa using hv) ⟨Nat.le_refl _, fun b _ _ => rfl, fun b hb => .inl hb⟩
    simpa [oA] using this
  · rw [if_neg hm, if_pos ⟨hl, ints_leaf, hv.ownOk⟩]
    refine h _ _ _ ?_ ⟨by simp [kill_len2], fun b hb hn => ?_, fun b hb => .inr ?_⟩
    · refine .inr ⟨H.length, 0, ints l ++ ints m, by rw [List.length_append], ?_, ?_, ?_⟩
      · rw [← kill_len2 (v := v), gt0]; rfl
      · simp [ints]
      · rw [List.drop_zero, List.take_of_length_le (by simp [ints]), ints_app]
    · rw [List.getElem?_append_left (by rw [kill_len2]; exact hb), kill_keep hn]
    · simp [blkOf] at hb; omega
theorem OwnRow.nil {H : AH} : OwnRow H (.slice none 0 0) [] := .inl ⟨rfl, rfl⟩
theorem OwnRow.at0 {H : AH} {b : Nat} {cs : List Value} (h : H[b]? = some ⟨cs, .own⟩) : OwnRow H (.slice (some ⟨b, 0, none⟩) 0 1) [] := .inr ⟨b, 0, cs, rfl, h, by simp, by simp [ints]⟩
theorem IntRow.ext {H H' : AH} {w : Value} {m : List Int} (h : IntRow H w m) (he : ∃ K, H' = H ++ K) : IntRow H' w m := by
  obtain ⟨K, rfl⟩ := he; exact h.mono
theorem App.own {H H' : AH} {v v' w : Value} {m : List Int} (h : App H v H' v') (hw : OwnRow H w m) (hd : ∀ b, blkOf w = some b → blkOf v ≠ some b) : OwnRow H' w m :=
  hw.same fun b hb => h.keep b (hw.lt b hb) (hd b hb)
theorem App.at {H H' : AH} {v v' : Value} {b : Nat} {k : Blk} (h : App H v H' v') (hb : H[b]? = some k) (hd : blkOf v ≠ some b) : H'[b]? = some k := by
  rw [h.keep b (List.getElem?_eq_some_iff.1 hb).1 hd, hb]
theorem set_at {H : AH} {b : Nat} {k k' : Blk} (h : H[b]? = some k) : (H.set b k')[b]? = some k' := List.getElem?_set_self (List.getElem?_eq_some_iff.1 h).1
theorem set_ext {H H' : AH} {b : Nat} {k : Blk} (h : ∃ K, H' = H ++ K) (hb : H.length ≤ b) : ∃ K, H'.set b k = H ++ K := by
  obtain ⟨K, rfl⟩ := h
  exact ⟨K.set (b - H.length) k, by rw [List.set_append_right _ _ hb]⟩
theorem app_ext {H H' L : AH} (h : ∃ K, H' = H ++ K) : ∃ K, H' ++ L = H ++ K := by
  obtain ⟨K, rfl⟩ := h
  exact ⟨K ++ L, by simp⟩
theorem ext_refl {H : AH} : ∃ K, H = H ++ K := ⟨[], by simp⟩
theorem ext_trans {H H1 H2 : AH} (h1 : ∃ K, H1 = H ++ K) (h2 : ∃ K, H2 = H1 ++ K) : ∃ K, H2 = H ++ K := by
  obtain ⟨K, rfl⟩ := h1; obtain ⟨L, rfl⟩ := h2; exact ⟨K ++ L, by simp⟩
theorem ext_len {H H' : AH} (h : ∃ K, H' = H ++ K) : H.length ≤ H'.length := by
  obtain ⟨K, rfl⟩ := h; simp
theorem OwnRow.set {H : AH} {v : Value} {l : List Int} {b : Nat} {k : Blk} (h : OwnRow H v l) (hb : blkOf v ≠ some b) : OwnRow (H.set b k) v l :=
  h.same fun g hg => List.getElem?_set_ne (fun e => hb (by rw [e]; exact hg))
/-- An array whose rows are its own. -/
structure AOwn (H0 H : AH) (v : Value) (sh dt : List Int) (p q : Value) : Prop where
  eq : v = .agg #[p, q]
  sh : OwnRow H p sh
  dt : OwnRow H q dt
  dj : Dj p q
  n1 : ∀ b, blkOf p = some b → H0.length ≤ b
  n2 : ∀ b, blkOf q = some b → H0.length ≤ b

set_option maxHeartbeats 4000000 in
theorem copyArray_ok {H : AH} {p q : Value} {sh dt : List Int} (hp : IntRow H p sh) (hq : IntRow H q dt) (l1 : sh.length ≤ 1073741824) (l2 : dt.length ≤ 1073741824) :
    CallsA Try.prog 29 #[.agg #[p, q]] H fun r H' => (∃ p' q', AOwn H H' r sh dt p' q') ∧ ∃ K, H' = H ++ K := by
  refine w29 ?_
  unfold k29
  obtain ⟨a1, c1, rfl, _⟩ := hp.op
  obtain ⟨a2, c2, rfl, _⟩ := hq.op
  simp -implicitDefEqProofs only [kz, kk0, kk1, kk2, kk3, ↓two_true, ↓two_false, oS_some, oM_some, mkv, aggAt, Nat.reduceLeDiff, Nat.reduceSub, Nat.reduceMul, implies_true, Nat.reduceEqDiff, reduceIte, Nat.reduceAdd, Nat.reduceBEq, reduceCtorEq, al26, ap24_24, bd26, fa26_0, fa26_1, ld24, ld26, st26]
  refine oA_own (l := []) OwnRow.nil hp.mono (by simpa using l1) fun a c H1 o1 x1 => ?_
  simp only [List.length_nil, Nat.zero_add, List.nil_append] at o1 x1 ⊢
  have e1 := x1.ext ⟨_, rfl⟩ (by intro b hb; simp [blkOf] at hb)
  have b0 := x1.at (b := H.length) (by rw [gt0]; rfl) (by simp [blkOf])
  have b1 := x1.at (b := H.length + 1) (by rw [gti]; rfl) (by simp [blkOf])
  have n1 : ∀ b, blkOf (.slice a sh.length c) = some b → H.length + 2 ≤ b := fun b hb => by
    rcases x1.new b hb with h | h
    · simp [blkOf] at h
    · simp at h; omega
  have h1 := x1.len
  simp only [List.length_append, List.length_cons, List.length_nil] at h1
  clear x1
  simp -implicitDefEqProofs only [kz, kk0, kk1, kk2, kk3, ↓two_true, ↓two_false, oS_some, oM_some, mkv, aggAt, Nat.reduceLeDiff, Nat.reduceSub, Nat.reduceMul, implies_true, Nat.reduceEqDiff, reduceIte, Nat.reduceAdd, Nat.reduceBEq, reduceCtorEq, al26, ap24_24, bd26, fa26_0, fa26_1, ld24, ld26, st26, rd_own b0]
  refine oA_own (l := []) OwnRow.nil (hq.ext e1) (by simpa using l2) fun a' c' H2 o2 x2 => ?_
  simp only [List.length_nil, Nat.zero_add, List.nil_append] at o2 x2 ⊢
  have hne : ∀ b, blkOf (.slice none 0 0) ≠ some b := fun b e => by simp [blkOf] at e
  have e2 := x2.ext e1 (by intro b hb; simp [blkOf] at hb)
  have o3 := x2.own o1 fun b _ => hne b
  have b2 := x2.at b0 (hne _)
  have b3 := x2.at b1 (hne _)
  have n2 : ∀ b, blkOf (.slice a' dt.length c') = some b → H1.length ≤ b := fun b hb => by
    rcases x2.new b hb with h | h
    · simp [blkOf] at h
    · exact h
  clear x2
  simp -implicitDefEqProofs only [kz, kk0, kk1, kk2, kk3, ↓two_true, ↓two_false, oS_some, oM_some, mkv, aggAt, Nat.reduceLeDiff, Nat.reduceSub, Nat.reduceMul, implies_true, Nat.reduceEqDiff, reduceIte, Nat.reduceAdd, Nat.reduceBEq, reduceCtorEq, al26, ap24_24, bd26, fa26_0, fa26_1, ld24, ld26, st26, rd_own b2, wrt_own b3, rd_own b0, rd_own (set_at b3)]
  refine ⟨⟨_, _, rfl, o3.set fun e => ?_, o2.set fun e => ?_, fun b h3 h4 => ?_, fun b hb => ?_, fun b hb => ?_⟩, set_ext e2 (by omega)⟩
  · have := n1 _ e; omega
  · have := n2 _ e; omega
  · have := o1.lt b h3; have := n2 b h4; omega
  · have := n1 _ hb; omega
  · have := n2 _ hb; omega

/-- A row of cells of its own; its cells may be read. -/
structure FOwn (H : AH) (v : Value) (ks : List CK) (n : Nat) (xs : List Value) : Prop where
  len : xs.length = n * ks.length
  row : (v = .slice none 0 0 ∧ n = 0) ∨ ∃ b o cs, v = .slice (some ⟨b, o, none⟩) n ks.length ∧ H[b]? = some ⟨cs, .own⟩ ∧ o + n * ks.length ≤ cs.length ∧ ∀ (j : Nat) y, xs[j]? = some y → cs[o + j]? = some y
  ok : ∀ (i c : Nat) k y, i < n → ks[c]? = some k → xs[i * ks.length + c]? = some y → KOk H k y
  out : ∀ (j : Nat) y, xs[j]? = some y → Dj v y
theorem OT.fown {H : AH} {v : Value} {ks : List CK} {n : Nat} {xs : List Value} (h : OT H v ks n xs) : FOwn H v ks n xs := ⟨h.len, h.row, h.ok, h.out⟩
theorem FOwn.frow {H : AH} {v : Value} {ks : List CK} {n : Nat} {xs : List Value} (h : FOwn H v ks n xs) : FRow H v ks n xs := by
  refine ⟨h.len, ?_, h.ok⟩
  rcases h.row with h1 | ⟨b, o, cs, h1, h2, h3⟩
  · exact .inl h1
  · exact .inr ⟨b, o, cs, h1, rd_own h2, h3⟩
theorem KOk.lt {H : AH} {k : CK} {y : Value} (h : KOk H k y) : ∀ b, blkOf y = some b → b < H.length := by
  intro b hb
  have := h.rdable b hb
  rcases Nat.lt_or_ge b H.length with h1 | h1
  · exact h1
  · unfold rd at this; rw [List.getElem?_eq_none h1] at this; cases this
theorem FRow.lt {H : AH} {v : Value} {ks : List CK} {n : Nat} {xs : List Value} (h : FRow H v ks n xs) : ∀ b, (blkOf v = some b ∨ ∃ y ∈ xs, blkOf y = some b) → b < H.length := by
  intro b hb
  have := h.rdable b hb
  rcases Nat.lt_or_ge b H.length with h1 | h1
  · exact h1
  · unfold rd at this; rw [List.getElem?_eq_none h1] at this; cases this
theorem FOwn.same {H H' : AH} {v : Value} {ks : List CK} {n : Nat} {xs : List Value} (h : FOwn H v ks n xs) (hs : ∀ b, (blkOf v = some b ∨ ∃ y ∈ xs, blkOf y = some b) → H'[b]? = H[b]?) : FOwn H' v ks n xs := by
  refine ⟨h.len, ?_, (h.frow.same fun b hb => get_rd (hs b hb)).ok, h.out⟩
  rcases h.row with h1 | ⟨b, o, cs, h1, h2, h3⟩
  · exact .inl h1
  · exact .inr ⟨b, o, cs, h1, by rw [hs b (.inl (by rw [h1]; rfl))]; exact h2, h3⟩
theorem FOwn.mono {H L : AH} {v : Value} {ks : List CK} {n : Nat} {xs : List Value} (h : FOwn H v ks n xs) : FOwn (H ++ L) v ks n xs := h.same fun b hb => List.getElem?_append_left (h.frow.lt b hb)
theorem FOwn.nil {H : AH} {ks : List CK} : FOwn H (.slice none 0 0) ks 0 [] := ⟨by simp, .inl ⟨rfl, rfl⟩, fun i c k y hi => by omega, fun j y h => by simp at h⟩
theorem FOwn.at0 {H : AH} {ks : List CK} {b : Nat} {cs : List Value} (h : H[b]? = some ⟨cs, .own⟩) : FOwn H (.slice (some ⟨b, 0, none⟩) 0 ks.length) ks 0 [] := ⟨by simp, .inr ⟨b, 0, cs, rfl, h, by simp, fun j y h => by simp at h⟩, fun i c k y hi => by omega, fun j y h => by simp at h⟩
theorem OT.of {H : AH} {v : Value} {ks : List CK} {n : Nat} {xs : List Value} (h : FOwn H v ks n xs) (h1 : ∀ (j : Nat) y, xs[j]? = some y → OwnC H y) (h2 : ∀ (i j : Nat) x y, i ≠ j → xs[i]? = some x → xs[j]? = some y → Dj x y) : OT H v ks n xs := ⟨h.len, h.row, h.ok, h1, h.out, h2⟩
theorem KOk.leaf {H : AH} {k : CK} {y : Value} (h : KOk H k y) : Go.Proofs.Ytpclegiocblpmaa.AM.leaf y = true := by
  cases k with
  | i => obtain ⟨n, rfl⟩ := h; rfl
  | b => obtain ⟨n, rfl⟩ := h; rfl
  | r => obtain ⟨a, c, e⟩ := h.1.slice; rw [e]; rfl
  | w => obtain ⟨a, c, e⟩ := h.1.slice; rw [e]; rfl
theorem All2.mem {H : AH} {ks : List CK} {x : List Value} (h : All2 H ks x) {y : Value} (hy : y ∈ x) : ∃ k, KOk H k y := by
  obtain ⟨c, hc, e⟩ := List.mem_iff_getElem.1 hy
  have hl := h.len
  exact ⟨ks[c], h.get c ks[c] y (List.getElem?_eq_getElem (by omega)) (by rw [List.getElem?_eq_getElem hc, e])⟩
theorem FOwn.cl {H : AH} {v : Value} {ks : List CK} {n : Nat} {xs : List Value} (h : FOwn H v ks n xs) : cl H ks.length v = some xs ∧ lenS v = n ∧ ownOk v ks.length H = true := by
  have hl := h.len
  rcases h.row with ⟨rfl, rfl⟩ | ⟨b, o, cs, rfl, h1, h2, h3⟩
  · have : xs = [] := List.eq_nil_of_length_eq_zero (by omega)
    subst this
    exact ⟨rfl, rfl, rfl⟩
  · refine ⟨?_, rfl, by simp [ownOk, h1]⟩
    simp only [Go.Proofs.Ytpclegiocblpmaa.AM.cl, rd_own h1, Option.bind_some, if_pos h2]
    congr 1
    refine List.ext_getElem? fun j => ?_
    rcases Nat.lt_or_ge j xs.length with h4 | h4
    · rw [List.getElem?_take_of_lt (by omega), List.getElem?_drop, h3 j _ (List.getElem?_eq_getElem h4), List.getElem?_eq_getElem h4]
    · rw [List.getElem?_eq_none (by simp; omega), List.getElem?_eq_none h4]
theorem oA_push {H : AH} {v : Value} {ks : List CK} {n : Nat} {xs x : List Value} {Φ : Value → AH → Prop} (h : FOwn H v ks n xs) (hx : All2 H ks x) (hd : ∀ y ∈ x, Dj v y) (hl : n + 1 ≤ 1073741824)
    (hk : ∀ b H', FOwn H' (.slice (some ⟨b, 0, none⟩) (n + 1) ks.length) ks (n + 1) (xs ++ x) → App H v H' (.slice (some ⟨b, 0, none⟩) (n + 1) ks.length) → (∀ y ∈ xs ++ x, cv H' y = cv H y) → H.length < b → Φ (.slice (some ⟨b, 0, none⟩) (n + 1) ks.length) H') :
    oA (app ks.length v (.slice (some ⟨H.length, 0, none⟩) 1 ks.length) (H ++ [⟨x, .own⟩])) Φ := by
  obtain ⟨c1, c2, c3⟩ := (h.mono (L := [⟨x, .own⟩])).cl
  have c4 : Go.Proofs.Ytpclegiocblpmaa.AM.cl (H ++ [⟨x, .own⟩]) ks.length (.slice (some ⟨H.length, 0, none⟩) 1 ks.length) = some x := by
    simp only [Go.Proofs.Ytpclegiocblpmaa.AM.cl, rd0, List.getElem?_cons_zero, rdB_own, Option.bind_some, Nat.zero_add, Nat.one_mul]
    rw [if_pos (Nat.le_of_eq hx.len.symm), List.drop_zero, List.take_of_length_le (Nat.le_of_eq hx.len)]
  have c5 : x.all leaf = true := List.all_eq_true.2 fun y hy => by
    obtain ⟨k, hk⟩ := hx.mem hy
    exact hk.leaf
  have c6 : lenS (.slice (some ⟨H.length, 0, none⟩) 1 ks.length) = 1 := rfl
  unfold app
  rw [c1, c4]
  simp only
  rw [c6, c2, if_neg (by decide), if_pos ⟨hl, c5, c3⟩]
  have hlt := h.frow.lt
  have keep : ∀ b, b < H.length → blkOf v ≠ some b → (kill v (H ++ [⟨x, .own⟩]) ++ [⟨xs ++ x, .own⟩] : AH)[b]? = H[b]? := by
    intro b hb hn
    rw [List.getElem?_append_left (by rw [kill_len2, List.length_append]; omega), kill_keep hn, List.getElem?_append_left hb]
  have hcell : ∀ y ∈ xs ++ x, ∀ b, blkOf y = some b → (kill v (H ++ [⟨x, .own⟩]) ++ [⟨xs ++ x, .own⟩] : AH)[b]? = H[b]? := by
    intro y hy b hb
    rcases List.mem_append.1 hy with h1 | h1
    · obtain ⟨j, hj⟩ := List.mem_iff_getElem?.1 h1
      exact keep b (hlt b (.inr ⟨y, h1, hb⟩)) fun e => h.out j y hj b e hb
    · obtain ⟨k, hk⟩ := hx.mem h1
      exact keep b (hk.lt b hb) fun e => hd y h1 b e hb
  refine hk _ _ ⟨?_, ?_, ?_, ?_⟩ ⟨by rw [List.length_append, kill_len2, List.length_append]; omega, keep, fun b hb => .inr ?_⟩ (fun y hy => cv_same fun b hb => get_rd (hcell y hy b hb)) (by rw [List.length_append]; exact Nat.lt_succ_self _)
  · rw [List.length_append, h.len, hx.len, Nat.add_mul, Nat.one_mul]
  · refine .inr ⟨_, 0, xs ++ x, rfl, by rw [← kill_len2 (v := v), gt0]; rfl, by rw [List.length_append, h.len, hx.len, Nat.add_mul]; omega, fun j y hy => by rw [Nat.zero_add]; exact hy⟩
  · intro i c k y hi hk' hy
    have hmem : y ∈ xs ++ x := List.mem_of_getElem? hy
    refine KOk.same (H := H) ?_ fun b hb => get_rd (hcell y hmem b hb)
    have hc := (List.getElem?_eq_some_iff.1 hk').1
    rcases Nat.lt_or_ge i n with h1 | h1
    · have := row_lt (s := ks.length) h1
      rw [List.getElem?_append_left (by rw [h.len]; omega)] at hy
      exact h.ok i c k y h1 hk' hy
    · have : i = n := by omega
      subst this
      rw [List.getElem?_append_right (by rw [h.len]; omega), h.len, Nat.add_sub_cancel_left] at hy
      exact hx.get c k y hk' hy
  · intro j y hy b hb hb2
    simp [blkOf] at hb
    have hmem : y ∈ xs ++ x := List.mem_of_getElem? hy
    have : b < H.length := by
      rcases List.mem_append.1 hmem with h1 | h1
      · exact hlt b (.inr ⟨y, h1, hb2⟩)
      · obtain ⟨k, hk⟩ := hx.mem h1
        exact hk.lt b hb2
    omega
  · simp [blkOf] at hb; omega
theorem cvs_take {H : AH} {s i : Nat} {xs : List Value} : (cvs H xs).take ((i + 1) * s) = (cvs H xs).take (i * s) ++ (elm s xs i).map (cv H) := by
  unfold cvs elm
  rw [Nat.add_mul, Nat.one_mul, List.take_add, List.map_take, List.map_drop]
/-- All of a row is its own, and no older than a heap. -/
structure New (H0 H : AH) (v : Value) (ks : List CK) (n : Nat) (ys : List Value) : Prop where
  ot : OT H v ks n ys
  fr : ∀ b, (blkOf v = some b ∨ ∃ y ∈ ys, blkOf y = some b) → H0.length ≤ b
theorem New.mono {H0 H L : AH} {v : Value} {ks : List CK} {n : Nat} {ys : List Value} (h : New H0 H v ks n ys) : New H0 (H ++ L) v ks n ys := ⟨h.ot.mono, h.fr⟩
theorem New.nil {H0 H : AH} {ks : List CK} : New H0 H (.slice none 0 0) ks 0 [] := ⟨OT.of FOwn.nil (fun j y h => by simp at h) fun i j x y _ h => by simp at h, fun b hb => by simp [blkOf] at hb⟩
theorem New.at0 {H0 H : AH} {ks : List CK} {b : Nat} {cs : List Value} (h : H[b]? = some ⟨cs, .own⟩) (hb : H0.length ≤ b) : New H0 H (.slice (some ⟨b, 0, none⟩) 0 ks.length) ks 0 [] :=
  ⟨OT.of (FOwn.at0 h) (fun j y h => by simp at h) fun i j x y _ h => by simp at h, fun g hg => by simp [blkOf] at hg; omega⟩
/-- A new element is put behind a row that is its own. -/
theorem oA_new {H0 H1 H : AH} {v : Value} {ks : List CK} {n : Nat} {xs x : List Value} {Φ : Value → AH → Prop} (h : New H0 H1 v ks n xs) (he : ∃ K, H = H1 ++ K) (hx : All2 H ks x) (ho : ∀ y ∈ x, OwnC H y) (hf : ∀ y ∈ x, ∀ b, blkOf y = some b → H1.length ≤ b)
    (hdj : ∀ (i j : Nat) y z, i ≠ j → x[i]? = some y → x[j]? = some z → Dj y z) (h0 : H0.length ≤ H1.length) (hl : n + 1 ≤ 1073741824)
    (hk : ∀ b H', New H0 H' (.slice (some ⟨b, 0, none⟩) (n + 1) ks.length) ks (n + 1) (xs ++ x) → App H v H' (.slice (some ⟨b, 0, none⟩) (n + 1) ks.length) → cvs H' (xs ++ x) = cvs H1 xs ++ x.map (cv H) → Φ (.slice (some ⟨b, 0, none⟩) (n + 1) ks.length) H') :
    oA (app ks.length v (.slice (some ⟨H.length, 0, none⟩) 1 ks.length) (H ++ [⟨x, .own⟩])) Φ := by
  obtain ⟨K, rfl⟩ := he
  have hd : ∀ y ∈ x, Dj v y := fun y hy b hb hb2 => by
    have := h.ot.lt b (.inl hb); have := hf y hy b hb2; omega
  have hxx : ∀ y ∈ x, ∀ z ∈ xs, Dj y z := fun y hy z hz b hb hb2 => by
    have := h.ot.lt b (.inr ⟨z, hz, hb2⟩); have := hf y hy b hb; omega
  refine oA_push h.ot.mono.fown hx hd hl fun b H' f a c hb => hk b H' ⟨OT.of f ?_ ?_, ?_⟩ a ?_
  · intro j y hy
    have hmem := List.mem_of_getElem? hy
    have hold : OwnC (H1 ++ K) y := by
      rcases List.mem_append.1 hmem with h1 | h1
      · obtain ⟨i, hi⟩ := List.mem_iff_getElem?.1 h1
        exact h.ot.mono.own i y hi
      · exact ho y h1
    refine hold.same fun g hg => a.keep g (hold.lt g hg) fun e => ?_
    rcases List.mem_append.1 hmem with h1 | h1
    · obtain ⟨i, hi⟩ := List.mem_iff_getElem?.1 h1
      exact h.ot.out i y hi g e hg
    · exact hd y h1 g e hg
  · intro i j y z hij hy hz
    rw [List.getElem?_append] at hy hz
    split at hy <;> split at hz
    · exact h.ot.dif i j y z hij hy hz
    · exact (hxx z (List.mem_of_getElem? hz) y (List.mem_of_getElem? hy)).symm
    · exact hxx y (List.mem_of_getElem? hy) z (List.mem_of_getElem? hz)
    · exact hdj _ _ y z (by omega) hy hz
  · rintro g (hg | ⟨y, hy, hg⟩)
    · simp [blkOf] at hg; rw [List.length_append] at hb; omega
    · rcases List.mem_append.1 hy with h1 | h1
      · exact h.fr g (.inr ⟨y, h1, hg⟩)
      · have := hf y h1 g hg; omega
  · have e1 : cvs (H1 ++ K) xs = cvs H1 xs := h.ot.frow.vals
    rw [← e1]
    unfold cvs
    rw [List.map_append, List.map_congr_left fun y hy => c y (List.mem_append.2 (.inl hy)), List.map_congr_left fun y hy => c y (List.mem_append.2 (.inr hy))]
theorem FRow.opn {H : AH} {v : Value} {ks : List CK} {n : Nat} {xs : List Value} (s : Nat) (hs : ks.length = s) (h : FRow H v ks n xs) : ∃ a c, v = .slice a n c ∧ (0 < n → ∃ b o cs, a = some ⟨b, o, none⟩ ∧ c = s ∧ rd H b = some cs ∧ o + n * s ≤ cs.length ∧
    ∀ i, i < n → aggAt s (o + i * s) cs = some (.agg (elm s xs i).toArray) ∧ ∀ (c : Nat) y, (elm s xs i)[c]? = some y → cs[o + i * s + c]? = some y) := by
  subst hs; exact h.op
theorem FRow.elemn {H : AH} {v : Value} {ks : List CK} {n : Nat} {xs : List Value} (s : Nat) (hs : ks.length = s) (h : FRow H v ks n xs) {i : Nat} (hi : i < n) : All2 H ks (elm s xs i) := by
  subst hs; exact h.elem hi
theorem oA_newn {H0 H1 H : AH} {v : Value} {ks : List CK} {n : Nat} {xs x : List Value} {Φ : Value → AH → Prop} (s : Nat) (hs : ks.length = s) (h : New H0 H1 v ks n xs) (he : ∃ K, H = H1 ++ K) (hx : All2 H ks x) (ho : ∀ y ∈ x, OwnC H y) (hf : ∀ y ∈ x, ∀ b, blkOf y = some b → H1.length ≤ b)
    (hdj : ∀ (i j : Nat) y z, i ≠ j → x[i]? = some y → x[j]? = some z → Dj y z) (h0 : H0.length ≤ H1.length) (hl : n + 1 ≤ 1073741824)
    (hk : ∀ b H', New H0 H' (.slice (some ⟨b, 0, none⟩) (n + 1) s) ks (n + 1) (xs ++ x) → App H v H' (.slice (some ⟨b, 0, none⟩) (n + 1) s) → cvs H' (xs ++ x) = cvs H1 xs ++ x.map (cv H) → Φ (.slice (some ⟨b, 0, none⟩) (n + 1) s) H') :
    oA (app s v (.slice (some ⟨H.length, 0, none⟩) 1 s) (H ++ [⟨x, .own⟩])) Φ := by
  subst hs
  exact oA_new h he hx ho hf hdj h0 hl hk
theorem New.blk {H0 H : AH} {v : Value} {ks : List CK} {n : Nat} {ys : List Value} (h : New H0 H v ks n ys) : ∀ b, blkOf v = some b → H0.length ≤ b := fun b hb => h.fr b (.inl hb)
theorem pw_get {x : List Value} (h : x.Pairwise Dj) : ∀ (i j : Nat) y z, i ≠ j → x[i]? = some y → x[j]? = some z → Dj y z := by
  intro i j y z hij hy hz
  obtain ⟨h1, e1⟩ := List.getElem?_eq_some_iff.1 hy
  obtain ⟨h2, e2⟩ := List.getElem?_eq_some_iff.1 hz
  rw [List.pairwise_iff_getElem] at h
  rcases Nat.lt_or_gt_of_ne hij with h3 | h3
  · have := h i j h1 h2 h3
    rwa [e1, e2] at this
  · have := h j i h2 h1 h3
    rw [e1, e2] at this
    exact this.symm
theorem MC.at {H H' : AH} {v : Value} {ks : List CK} {n p : Nat} {xs ys : List Value} {k q : Int} (s : Nat) (hs : ks.length = s) (h : MC H v ks n xs k p q ys H') {b o : Nat} {c : Nat} (hv : v = .slice (some ⟨b, o, none⟩) n c) (hn : 0 < n) :
    c = s ∧ ∃ cs, H'[b]? = some ⟨cs, .own⟩ ∧ o + n * s ≤ cs.length ∧ ∀ (j : Nat) y, ys[j]? = some y → cs[o + j]? = some y := by
  subst hs
  rcases h.ot.row with ⟨_, h1⟩ | ⟨b', o', cs, h1, h2⟩
  · omega
  · rw [hv] at h1
    simp only [Value.slice.injEq, Option.some.injEq, Addr.mk.injEq] at h1
    obtain ⟨⟨rfl, rfl, _⟩, _, rfl⟩ := h1
    exact ⟨rfl, cs, h2⟩
theorem cntF_take {l : List CV} {p : Nat} : cntF (l.take p) ≤ cntF l := by
  have : cntF l = cntF (l.take p) + cntF (l.drop p) := by rw [← cntF_append, List.take_append_drop]
  omega
theorem MC.lim {H H' : AH} {v : Value} {ks : List CK} {n p : Nat} {xs ys : List Value} {k q : Int} (h : MC H v ks n xs k p q ys H') {y : Value} (hy : ys[p]? = some y) : k ≤ q ∧ q + cnt1 (cv H' y) ≤ k + cntF (cvs H xs) := by
  have h1 := h.cnt
  have h2 := (h.take hy).1
  have h3 := cntF_take (l := cvs H xs) (p := p + 1)
  rw [h2, cntF_append] at h3
  have : cntF [cv H' y] = cnt1 (cv H' y) := by simp [cntF]
  omega
theorem OwnC.row {H : AH} {y : Value} (h : OwnC H y) (hk : OkI H y) : OwnRow H y (rowI H y) := by
  rcases h with ⟨n, rfl⟩ | ⟨x, rfl⟩ | h
  · obtain ⟨a, c, e⟩ := hk.slice; cases e
  · obtain ⟨a, c, e⟩ := hk.slice; cases e
  · exact h
theorem OwnRow.blk {H : AH} {v : Value} {l : List Int} (h : OwnRow H v l) (hl : 0 < l.length) : ∃ b o cs, v = .slice (some ⟨b, o, none⟩) l.length 1 ∧ H[b]? = some ⟨cs, .own⟩ ∧ o + l.length ≤ cs.length ∧ ∀ (i : Nat) x, l[i]? = some x → cs[o + i]? = some (.int .i64 x) := by
  rcases h with ⟨rfl, rfl⟩ | ⟨b, o, cs, rfl, h1, h2, h3⟩
  · simp at hl
  · refine ⟨b, o, cs, rfl, h1, h2, fun i x hx => ?_⟩
    obtain ⟨hi, e⟩ := List.getElem?_eq_some_iff.1 hx
    have := ints_get hi
    rw [← h3, List.getElem?_take_of_lt hi, List.getElem?_drop, e] at this
    exact this
theorem OwnRow.ext {H H' : AH} {v : Value} {l : List Int} (h : OwnRow H v l) (he : ∃ K, H' = H ++ K) : OwnRow H' v l := by obtain ⟨K, rfl⟩ := he; exact h.mono
theorem rd_ext {H H' : AH} {b : Nat} {cs : List Value} (h : rd H b = some cs) (he : ∃ K, H' = H ++ K) : rd H' b = some cs := by obtain ⟨K, rfl⟩ := he; rw [rdl (by simp [h]), h]
theorem All2.ext {H H' : AH} {ks : List CK} {x : List Value} (h : All2 H ks x) (he : ∃ K, H' = H ++ K) : All2 H' ks x ∧ x.map (cv H') = x.map (cv H) := by obtain ⟨K, rfl⟩ := he; exact ⟨h.mono, h.mapcv⟩
theorem intRow1 {H : AH} {d : Int} : IntRow (H ++ [⟨[.int .i64 d], .own⟩]) (.slice (some ⟨H.length, 0, none⟩) 1 1) [d] :=
  .inr ⟨H.length, 0, [.int .i64 d], rfl, by rw [rd0]; rfl, by simp, by simp [ints]⟩

theorem OwnRow.kok {H : AH} {p : Value} {l : List Int} (h : OwnRow H p l) (hl : l.length < 1073741825) : KOk H .r p ∧ OwnC H p ∧ cv H p = .r l := by
  refine ⟨⟨h.int.ok, by rw [h.rowI]; exact hl⟩, .inr (.inr (by rw [h.rowI]; exact h)), ?_⟩
  rw [cv_row h.int.ok, h.rowI]

theorem SOwn.new {H : AH} {s : Nat} {xs : List (List Value)} (h : ∀ x ∈ xs, x.length = s) : SOwn (H ++ [⟨xs.flatten, .own⟩]) (.slice (some ⟨H.length, 0, none⟩) xs.length s) s xs := by
  obtain ⟨h1, h2⟩ := flat_get xs h
  refine .inr ⟨H.length, 0, xs.flatten, rfl, by rw [gt0]; rfl, by rw [h1]; omega, ?_⟩
  intro i x hx
  have hl := h x (List.mem_iff_getElem?.2 ⟨i, hx⟩)
  refine ⟨hl, fun j y hy => ?_⟩
  have hj : j < s := by rw [← hl]; exact (List.getElem?_eq_some_iff.1 hy).1
  rw [← h2 i x hx, List.getElem?_take_of_lt hj, List.getElem?_drop] at hy
  rw [Nat.zero_add]
  exact hy

def prodI (l : List Int) : Int := l.foldl (fun a b => a * b) 1
def sizeI (l : List Int) : Int := if 3 < l.length then -1 else if l.all (fun x => inB x 0 300) = true then (if prodI l > 300 then -1 else prodI l) else -1
theorem prodI_snoc {l : List Int} {x : Int} : prodI (l ++ [x]) = prodI l * x := by simp [prodI]
set_option maxHeartbeats 4000000 in
theorem pow_step {p x : Int} {i : Nat} (hp : 0 ≤ p ∧ p ≤ 300 ^ i) (hx : 0 ≤ x ∧ x ≤ 300) : 0 ≤ p * x ∧ p * x ≤ 300 ^ (i + 1) := by
  refine ⟨Int.mul_nonneg hp.1 hx.1, ?_⟩
  rw [Int.pow_succ]
  exact Int.mul_le_mul hp.2 hx.2 hx.1 (by have := hp.1; have := hp.2; omega)
theorem pow_lim {i : Nat} (h : i ≤ 3) : (300 : Int) ^ i ≤ 27000000 := by
  match i, h with
  | 0, _ => decide
  | 1, _ => decide
  | 2, _ => decide
  | 3, _ => decide
theorem all_take_false {l : List Int} {i : Nat} {f : Int → Bool} (h : i < l.length) (hf : f l[i] = false) : l.all f = false := by
  rw [Bool.eq_false_iff]
  intro ha
  have := (List.all_eq_true.1 ha) l[i] (List.getElem_mem h)
  rw [hf] at this; cases this

set_option maxHeartbeats 4000000 in
theorem implSizeOf_ok {H : AH} {v : Value} {l : List Int} (hv : IntRow H v l) (hl : l.length < 4611686018427387904) : CallsA Try.prog 64 #[v] H fun r H' => r = .int .i64 (sizeI l) ∧ H' = H := by
  obtain ⟨a, c, rfl, gv⟩ := hv.op
  refine w64 ?_
  unfold k64
  simp -implicitDefEqProofs only [kz, kk0, kk1, kk2, kk3, ↓two_true, ↓two_false, oS_some, oM_some, mkv, aggAt, Nat.reduceLeDiff, Nat.reduceSub, Nat.reduceMul, implies_true, Nat.reduceEqDiff, reduceIte, Nat.reduceAdd, Nat.reduceBEq, reduceCtorEq, ix24, ld3, ln24]
  refine two_intro (fun h => ?_) (fun h => ?_)
  · have h' : 3 < l.length := by simp at h; omega
    rw [sizeI, if_pos h']
  · have h' : ¬ 3 < l.length := by simp at h; omega
    refine rW_loop (σ := Nat) (fun i tm H' => tm 9 = .slice a l.length c ∧ tm 10 = .int .i64 l.length ∧ tm 11 = .int .i64 i ∧ tm 3 = .int .i64 (prodI (l.take i)) ∧ H' = H ∧ i ≤ l.length ∧ (0 ≤ prodI (l.take i) ∧ prodI (l.take i) ≤ 300 ^ i) ∧ ∀ x ∈ l.take i, inB x 0 300 = true) (fun i => l.length - i) 0 ?_ ?_
    · simp -implicitDefEqProofs [kk0, kk1, kk2, kk3, rW_block, ↓two_true, ↓two_false, rW_cond, rO_guard, oS_some, oM_some, mkv, aggAt, Nat.reduceLeDiff, Nat.reduceSub, Nat.reduceMul, cond_true, cond_false, Option.bind_some, List.length_append, List.length_cons, List.length_nil, List.append_assoc, List.cons_append, List.nil_append, List.set_cons_zero, List.set_cons_succ, List.size_toArray, List.all_cons, List.all_nil, List.drop_zero, List.drop_succ_cons, List.take_succ_cons, List.take_zero, List.mem_cons, Prod.mk.injEq, List.not_mem_nil, implies_true, List.getElem?_toArray, List.getElem?_cons_zero, List.getElem?_cons_succ, List.getElem?_nil, Option.getD_some, Option.getD_none, Nat.reduceEqDiff, reduceIte, Nat.reduceAdd, List.map_toArray, List.map_cons, List.map_nil, Bool.false_eq_true, Nat.reduceBEq, Option.map_some, Option.map_none, reduceCtorEq, ix24, ld3, ln24, prodI]
    · rintro i tm H' ⟨h9, h10, h11, h3, rfl, hi, hp, ha⟩
      simp -implicitDefEqProofs only [kz, kk0, kk1, kk2, kk3, ↓two_true, ↓two_false, oS_some, oM_some, mkv, aggAt, Nat.reduceLeDiff, Nat.reduceSub, Nat.reduceMul, implies_true, Nat.reduceEqDiff, reduceIte, Nat.reduceAdd, Nat.reduceBEq, reduceCtorEq, ix24, ld3, ln24, h9, h10, h11, h3, within_eq]
      refine two_intro (fun hc => ?_) (fun hc => ?_)
      · have hc' : i < l.length := by simpa using hc
        obtain ⟨b, o, cs, rfl, rfl, hrd, _, hcell⟩ := gv (by omega)
        have hlim := pow_lim (i := i + 1) (by omega)
        simp -implicitDefEqProofs only [kz, kk0, kk1, kk2, kk3, ↓two_true, ↓two_false, oS_some, oM_some, mkv, aggAt, Nat.reduceLeDiff, Nat.reduceSub, Nat.reduceMul, implies_true, Nat.reduceEqDiff, reduceIte, Nat.reduceAdd, Nat.reduceBEq, reduceCtorEq, ix24, ld3, ln24, h9, h10, h11, h3, within_eq, Int.toNat_natCast, Nat.mul_one, hrd, hcell i hc', IntWalk.i64_in (↑i + 1) (by omega)]
        refine ⟨⟨by omega, by omega⟩, two_intro (fun h => ?_) (fun h => ?_)⟩
        · have hb : inB l[i] 0 300 = false := by simpa using h
          rw [sizeI, if_neg h', all_take_false hc' hb]
          simp
        · have hb : inB l[i] 0 300 = true := by simpa using h
          have hst := pow_step hp (inB_true.1 hb)
          have e1 : prodI (l.take (i + 1)) = prodI (l.take i) * l[i] := by rw [List.take_succ_eq_append_getElem hc', prodI_snoc]
          rw [IntWalk.i64_in (prodI (l.take i) * l[i]) (by omega)]
          refine ⟨i + 1, by omega, by simp, by rw [e1], hc', by rw [e1]; exact hst, ?_⟩
          intro x hx
          rw [List.take_succ_eq_append_getElem hc'] at hx
          rcases List.mem_append.1 hx with hx | hx
          · exact ha x hx
          · rw [List.mem_singleton.1 hx]; exact hb
      · have hc' : ¬ i < l.length := by simpa using hc
        have hil : i = l.length := by omega
        subst hil
        rw [List.take_length] at ha ⊢
        have hall : l.all (fun x => inB x 0 300) = true := List.all_eq_true.2 ha
        refine two_intro (fun h => ?_) (fun h => ?_)
        · rw [sizeI, if_neg h', if_pos hall, if_pos (by simpa using h)]
        · rw [sizeI, if_neg h', if_pos hall, if_neg (by simpa using h)]
theorem foldl_mul : ∀ (l : List Int) (a : Int), l.foldl (fun a b => a * b) a = a * prodI l
  | [], a => by simp [prodI]
  | x :: l, a => by
    show l.foldl (fun a b => a * b) (a * x) = a * (l.foldl (fun a b => a * b) (1 * x))
    rw [foldl_mul l (a * x), foldl_mul l (1 * x), Int.one_mul, Int.mul_assoc]
theorem prodI_cons {x : Int} {l : List Int} : prodI (x :: l) = x * prodI l := by
  show l.foldl (fun a b => a * b) (1 * x) = _
  rw [foldl_mul, Int.one_mul]
theorem prodI_zero : ∀ (l : List Int), l.any (fun x => x == 0) = true → prodI l = 0
  | [], h => by simp at h
  | x :: l, h => by
    rw [prodI_cons]
    simp only [List.any_cons, Bool.or_eq_true, beq_iff_eq] at h
    rcases h with h | h
    · rw [h, Int.zero_mul]
    · rw [prodI_zero l h, Int.mul_zero]

set_option maxHeartbeats 4000000 in
theorem specSizeOf_ok {H : AH} {v : Value} {l : List Int} (hv : IntRow H v l) (hl : l.length < 4611686018427387904) : CallsA Try.prog 68 #[v] H fun r H' => r = .int .i64 (sizeI l) ∧ H' = H := by
  obtain ⟨a, c, rfl, gv⟩ := hv.op
  refine w68 ?_
  unfold k68
  simp -implicitDefEqProofs only [kz, kk0, kk1, kk2, kk3, ↓two_true, ↓two_false, oS_some, oM_some, mkv, aggAt, Nat.reduceLeDiff, Nat.reduceSub, Nat.reduceMul, implies_true, Nat.reduceEqDiff, reduceIte, Nat.reduceAdd, Nat.reduceBEq, reduceCtorEq, ix24, ld3, ln24]
  refine two_intro (fun h => ?_) (fun h => ?_)
  · have h' : 3 < l.length := by simp at h; omega
    rw [sizeI, if_pos h']
  · have h' : ¬ 3 < l.length := by simp at h; omega
    refine rW_loop (σ := Nat) (fun i tm H' => tm 0 = .slice a l.length c ∧ tm 4 = .int .i64 i ∧ tm 3 = .bool ((l.take i).any fun x => x == 0) ∧ H' = H ∧ i ≤ l.length ∧ ∀ x ∈ l.take i, inB x 0 300 = true) (fun i => l.length - i) 0 ?_ ?_
    · simp -implicitDefEqProofs [kk0, kk1, kk2, kk3, rW_block, ↓two_true, ↓two_false, rW_cond, rO_guard, oS_some, oM_some, mkv, aggAt, Nat.reduceLeDiff, Nat.reduceSub, Nat.reduceMul, cond_true, cond_false, Option.bind_some, List.length_append, List.length_cons, List.length_nil, List.append_assoc, List.cons_append, List.nil_append, List.set_cons_zero, List.set_cons_succ, List.size_toArray, List.all_cons, List.all_nil, List.drop_zero, List.drop_succ_cons, List.take_succ_cons, List.take_zero, List.mem_cons, Prod.mk.injEq, List.not_mem_nil, implies_true, List.getElem?_toArray, List.getElem?_cons_zero, List.getElem?_cons_succ, List.getElem?_nil, Option.getD_some, Option.getD_none, Nat.reduceEqDiff, reduceIte, Nat.reduceAdd, List.map_toArray, List.map_cons, List.map_nil, Bool.false_eq_true, Nat.reduceBEq, Option.map_some, Option.map_none, reduceCtorEq, ix24, ld3, ln24]
    · rintro i tm H' ⟨h0, h4, h3, rfl, hi, ha⟩
      simp -implicitDefEqProofs only [kz, kk0, kk1, kk2, kk3, ↓two_true, ↓two_false, oS_some, oM_some, mkv, aggAt, Nat.reduceLeDiff, Nat.reduceSub, Nat.reduceMul, implies_true, Nat.reduceEqDiff, reduceIte, Nat.reduceAdd, Nat.reduceBEq, reduceCtorEq, ix24, ld3, ln24, h0, h3, h4, l1In_eq]
      refine two_intro (fun hc => ?_) (fun hc => ?_)
      · have hc' : i < l.length := by simpa using hc
        obtain ⟨b, o, cs, rfl, rfl, hrd, _, hcell⟩ := gv (by omega)
        simp -implicitDefEqProofs only [kz, kk0, kk1, kk2, kk3, ↓two_true, ↓two_false, oS_some, oM_some, mkv, aggAt, Nat.reduceLeDiff, Nat.reduceSub, Nat.reduceMul, implies_true, Nat.reduceEqDiff, reduceIte, Nat.reduceAdd, Nat.reduceBEq, reduceCtorEq, ix24, ld3, ln24, h0, h3, h4, l1In_eq, Int.toNat_natCast, Nat.mul_one, hrd, hcell i hc', IntWalk.i64_in (↑i + 1) (by omega)]
        refine ⟨⟨by omega, by omega⟩, two_intro (fun h => ?_) (fun h => ?_)⟩
        · have hb : inB l[i] 0 300 = false := by simpa using h
          rw [sizeI, if_neg h', all_take_false hc' hb]
          simp
        · have hb : inB l[i] 0 300 = true := by simpa using h
          have e1 : ((l.take (i + 1)).any fun x => x == 0) = (((l.take i).any fun x => x == 0) || l[i] == 0) := by rw [List.take_succ_eq_append_getElem hc']; simp only [List.any_append, List.any_cons, List.any_nil, Bool.or_false]
          have e2 : ∀ x ∈ l.take (i + 1), inB x 0 300 = true := by
            intro x hx
            rw [List.take_succ_eq_append_getElem hc'] at hx
            rcases List.mem_append.1 hx with hx | hx
            · exact ha x hx
            · rw [List.mem_singleton.1 hx]; exact hb
          refine two_intro (fun h2 => ?_) (fun h2 => ?_)
          · exact ⟨i + 1, by omega, by simp, by rw [e1, h2]; rfl, hc', e2⟩
          · exact ⟨⟨by omega, by omega⟩, i + 1, by omega, by simp, by rw [e1, h2]; rfl, hc', e2⟩
      · have hc' : ¬ i < l.length := by simpa using hc
        have hil : i = l.length := by omega
        subst hil
        rw [List.take_length] at ha h3
        have hall : l.all (fun x => inB x 0 300) = true := List.all_eq_true.2 ha
        refine rW_loop (σ := Nat) (fun i tm H'' => tm 0 = .slice a l.length c ∧ tm 6 = .int .i64 i ∧ tm 3 = .bool (l.any fun x => x == 0) ∧ tm 5 = .int .i64 (prodI (l.take i)) ∧ H'' = H' ∧ i ≤ l.length ∧ (0 ≤ prodI (l.take i) ∧ prodI (l.take i) ≤ 300 ^ i)) (fun i => l.length - i) 0 ?_ ?_
        · simp -implicitDefEqProofs [kk0, kk1, kk2, kk3, rW_block, ↓two_true, ↓two_false, rW_cond, rO_guard, oS_some, oM_some, mkv, aggAt, Nat.reduceLeDiff, Nat.reduceSub, Nat.reduceMul, cond_true, cond_false, Option.bind_some, List.length_append, List.length_cons, List.length_nil, List.append_assoc, List.cons_append, List.nil_append, List.set_cons_zero, List.set_cons_succ, List.size_toArray, List.all_cons, List.all_nil, List.drop_zero, List.drop_succ_cons, List.take_succ_cons, List.take_zero, List.mem_cons, Prod.mk.injEq, List.not_mem_nil, implies_true, List.getElem?_toArray, List.getElem?_cons_zero, List.getElem?_cons_succ, List.getElem?_nil, Option.getD_some, Option.getD_none, Nat.reduceEqDiff, reduceIte, Nat.reduceAdd, List.map_toArray, List.map_cons, List.map_nil, Bool.false_eq_true, Nat.reduceBEq, Option.map_some, Option.map_none, reduceCtorEq, ix24, ld3, ln24, h0, h3, prodI]
        · clear h0 h3 h4
          rintro i tm H2 ⟨h0, h6, h3, h5, rfl, hi, hp⟩
          simp -implicitDefEqProofs only [kz, kk0, kk1, kk2, kk3, ↓two_true, ↓two_false, oS_some, oM_some, mkv, aggAt, Nat.reduceLeDiff, Nat.reduceSub, Nat.reduceMul, implies_true, Nat.reduceEqDiff, reduceIte, Nat.reduceAdd, Nat.reduceBEq, reduceCtorEq, ix24, ld3, ln24, h0, h3, h5, h6]
          refine two_intro (fun hc => ?_) (fun hc => ?_)
          · have hc' : i < l.length := by simpa using hc
            obtain ⟨b, o, cs, rfl, rfl, hrd, _, hcell⟩ := gv (by omega)
            have hlim := pow_lim (i := i + 1) (by omega)
            have hst := pow_step hp (inB_true.1 (ha l[i] (List.getElem_mem hc')))
            have e1 : prodI (l.take (i + 1)) = prodI (l.take i) * l[i] := by rw [List.take_succ_eq_append_getElem hc', prodI_snoc]
            simp -implicitDefEqProofs only [kz, kk0, kk1, kk2, kk3, ↓two_true, ↓two_false, oS_some, oM_some, mkv, aggAt, Nat.reduceLeDiff, Nat.reduceSub, Nat.reduceMul, implies_true, Nat.reduceEqDiff, reduceIte, Nat.reduceAdd, Nat.reduceBEq, reduceCtorEq, ix24, ld3, ln24, h0, h3, h5, h6, Int.toNat_natCast, Nat.mul_one, hrd, hcell i hc', IntWalk.i64_in (↑i + 1) (by omega), IntWalk.i64_in (prodI (l.take i) * l[i]) (by omega)]
            exact ⟨⟨by omega, by omega⟩, i + 1, by omega, by simp, by rw [e1], hc', by rw [e1]; exact hst⟩
          · have hc' : ¬ i < l.length := by simpa using hc
            have hil : i = l.length := by omega
            subst hil
            rw [List.take_length] at h5 ⊢
            rw [sizeI, if_neg h', if_pos hall]
            refine two_intro (fun h => ?_) (fun h => ?_)
            · refine two_intro (fun h2 => ?_) (fun h2 => ?_)
              · rw [if_pos (by simpa using h)]
              · have := prodI_zero l (by simpa using h2)
                rw [this] at h
                simp at h
            · rw [if_neg (by simpa using h)]
def arrOk (sh dt : List Int) : Bool := ((dt.length : Int) == sizeI sh) && dt.all numOk
theorem any_not {l : List Int} : (l.any fun x => !numOk x) = !l.all numOk := List.not_all_eq_any_not.symm
def idxF {α : Type} (p : α → Bool) (l : List α) : Int := match l.findIdx? p with | some i => i | none => -1
theorem idxF_some {α : Type} {p : α → Bool} {l : List α} {i : Nat} (hi : i < l.length) (h : p l[i] = true) (hn : ∀ x ∈ l.take i, p x = false) : idxF p l = i := by
  have : l.findIdx? p = some i := by
    rw [List.findIdx?_eq_some_iff_getElem]
    refine ⟨hi, h, fun j hj => ?_⟩
    have hji : j < l.length := by omega
    have := hn l[j] (List.mem_iff_getElem?.2 ⟨j, by rw [List.getElem?_take_of_lt hj, List.getElem?_eq_getElem hji]⟩)
    simp [this]
  simp [idxF, this]
theorem idxF_none {α : Type} {p : α → Bool} {l : List α} (hn : ∀ x ∈ l, p x = false) : idxF p l = -1 := by
  have : l.findIdx? p = none := by
    rw [List.findIdx?_eq_none_iff]; exact hn
  simp [idxF, this]
theorem idxF_any {α : Type} {p : α → Bool} {l : List α} : decide (idxF p l ≥ 0) = l.any p := by
  cases h : l.findIdx? p with
  | none =>
    have h2 := List.findIdx?_eq_none_iff.1 h
    have : l.any p = false := by
      rw [Bool.eq_false_iff]
      intro ha
      obtain ⟨x, hx, hp⟩ := List.any_eq_true.1 ha
      rw [h2 x hx] at hp; cases hp
    simp [idxF, h, this]
  | some i =>
    obtain ⟨hi, hp, _⟩ := List.findIdx?_eq_some_iff_getElem.1 h
    have : l.any p = true := List.any_eq_true.2 ⟨l[i], List.getElem_mem hi, hp⟩
    simp [idxF, h, this]

set_option maxHeartbeats 4000000 in
theorem indexFuncI_ok {H : AH} {v : Value} {l : List Int} {g : FuncId} {p : Int → Bool} (hv : IntRow H v l) (hl : l.length < 4611686018427387904) (hp : ∀ x (H : AH) (Φ : Value → AH → Prop), CallsA Try.prog g #[.int .i64 x] H Φ = Φ (.bool (p x)) H) :
    CallsA Try.prog 102 #[v, .func (.func g) #[] #[]] H fun r H' => r = .int .i64 (idxF p l) ∧ H' = H := by
  obtain ⟨a, c, rfl, gv⟩ := hv.op
  refine w102 ?_
  unfold k102
  simp -implicitDefEqProofs only [kz, kk0, kk1, kk2, kk3, ↓two_true, ↓two_false, oS_some, oM_some, mkv, aggAt, Nat.reduceLeDiff, Nat.reduceSub, Nat.reduceMul, implies_true, Nat.reduceEqDiff, reduceIte, Nat.reduceAdd, Nat.reduceBEq, reduceCtorEq, ix24, ld3, ln24]
  refine rW_loop (σ := Nat) (fun i tm H' => tm 0 = .slice a l.length c ∧ tm 1 = .func (.func g) #[] #[] ∧ tm 7 = .int .i64 l.length ∧ tm 8 = .int .i64 i ∧ H' = H ∧ i ≤ l.length ∧ ∀ x ∈ l.take i, p x = false) (fun i => l.length - i) 0 ?_ ?_
  · simp -implicitDefEqProofs [kk0, kk1, kk2, kk3, rW_block, ↓two_true, ↓two_false, rW_cond, rO_guard, oS_some, oM_some, mkv, aggAt, Nat.reduceLeDiff, Nat.reduceSub, Nat.reduceMul, cond_true, cond_false, Option.bind_some, List.length_append, List.length_cons, List.length_nil, List.append_assoc, List.cons_append, List.nil_append, List.set_cons_zero, List.set_cons_succ, List.size_toArray, List.all_cons, List.all_nil, List.drop_zero, List.drop_succ_cons, List.take_succ_cons, List.take_zero, List.mem_cons, Prod.mk.injEq, List.not_mem_nil, implies_true, List.getElem?_toArray, List.getElem?_cons_zero, List.getElem?_cons_succ, List.getElem?_nil, Option.getD_some, Option.getD_none, Nat.reduceEqDiff, reduceIte, Nat.reduceAdd, List.map_toArray, List.map_cons, List.map_nil, Bool.false_eq_true, Nat.reduceBEq, Option.map_some, Option.map_none, reduceCtorEq, ix24, ld3, ln24]
  · rintro i tm H' ⟨h0, h1, h7, h8, rfl, hi, hn⟩
    simp -implicitDefEqProofs only [kz, kk0, kk1, kk2, kk3, ↓two_true, ↓two_false, oS_some, oM_some, mkv, aggAt, Nat.reduceLeDiff, Nat.reduceSub, Nat.reduceMul, implies_true, Nat.reduceEqDiff, reduceIte, Nat.reduceAdd, Nat.reduceBEq, reduceCtorEq, ix24, ld3, ln24, h0, h1, h7, h8]
    refine two_intro (fun hc => ?_) (fun hc => ?_)
    · have hc' : i < l.length := by simpa using hc
      obtain ⟨b, o, cs, rfl, rfl, hrd, _, hcell⟩ := gv (by omega)
      simp -implicitDefEqProofs only [kz, kk0, kk1, kk2, kk3, ↓two_true, ↓two_false, oS_some, oM_some, mkv, aggAt, Nat.reduceLeDiff, Nat.reduceSub, Nat.reduceMul, implies_true, Nat.reduceEqDiff, reduceIte, Nat.reduceAdd, Nat.reduceBEq, reduceCtorEq, ix24, ld3, ln24, h0, h1, h7, h8, Int.toNat_natCast, Nat.mul_one, hrd, hcell i hc', Array.empty_append, Array.append_empty, hp, IntWalk.i64_in (↑i + 1) (by omega)]
      refine ⟨⟨by omega, by omega⟩, two_intro (fun h => ?_) (fun h => ?_)⟩
      · rw [idxF_some hc' h hn]
      · refine ⟨i + 1, by omega, by simp, hc', ?_⟩
        intro x hx
        rw [List.take_succ_eq_append_getElem hc'] at hx
        rcases List.mem_append.1 hx with hx | hx
        · exact hn x hx
        · rw [List.mem_singleton.1 hx]; exact h
    · have hc' : ¬ i < l.length := by simpa using hc
      have hil : i = l.length := by omega
      subst hil
      rw [List.take_length] at hn
      rw [idxF_none hn]

set_option maxHeartbeats 4000000 in
theorem containsFuncI_ok {H : AH} {v : Value} {l : List Int} {g : FuncId} {p : Int → Bool} (hv : IntRow H v l) (hl : l.length < 4611686018427387904) (hp : ∀ x (H : AH) (Φ : Value → AH → Prop), CallsA Try.prog g #[.int .i64 x] H Φ = Φ (.bool (p x)) H) :
    CallsA Try.prog 65 #[v, .func (.func g) #[] #[]] H fun r H' => r = .bool (l.any p) ∧ H' = H := by
  have e := fun Φ => (indexFuncI_ok hv hl hp).eq0 (Φ := Φ)
  refine w65 ?_
  unfold k65
  simp -implicitDefEqProofs only [kz, kk0, kk1, kk2, kk3, ↓two_true, ↓two_false, oS_some, oM_some, mkv, aggAt, Nat.reduceLeDiff, Nat.reduceSub, Nat.reduceMul, implies_true, Nat.reduceEqDiff, reduceIte, Nat.reduceAdd, Nat.reduceBEq, reduceCtorEq, e, idxF_any]

theorem arrayOk1_eq {x : Int} {H : AH} {Φ : Value → AH → Prop} : CallsA Try.prog 66 #[.int .i64 x] H Φ = Φ (.bool (!numOk x)) H := by
  have : CallsA Try.prog 66 #[.int .i64 x] H fun r H' => r = .bool (!numOk x) ∧ H' = H := by
    refine w66 ?_
    unfold k66
    simp -implicitDefEqProofs only [kz, kk0, kk1, kk2, kk3, ↓two_true, ↓two_false, oS_some, oM_some, mkv, aggAt, Nat.reduceLeDiff, Nat.reduceSub, Nat.reduceMul, implies_true, Nat.reduceEqDiff, reduceIte, Nat.reduceAdd, Nat.reduceBEq, reduceCtorEq, implNumOk_eq]
  exact this.eq0
set_option maxHeartbeats 4000000 in
theorem implArrayOk_ok {H : AH} {p q : Value} {m l : List Int} (hp : IntRow H p m) (hq : IntRow H q l) (l1 : m.length < 4611686018427387904) (l2 : l.length < 4611686018427387904) :
    CallsA Try.prog 28 #[.agg #[p, q]] H fun r H' => r = .bool (arrOk m l) ∧ ∃ K, H' = H ++ K := by
  have ec := fun (L : AH) Φ => (containsFuncI_ok (H := H ++ L) (l := l) (IntRow.mono hq) l2 (fun x H Φ => arrayOk1_eq)).eq0 (Φ := Φ)
  have es := fun (L : AH) Φ => (implSizeOf_ok (H := H ++ L) (l := m) (IntRow.mono hp) l1).eq0 (Φ := Φ)
  obtain ⟨a, c, rfl, _⟩ := hq.op
  refine w28 ?_
  unfold k28
  simp -implicitDefEqProofs only [kz, kk0, kk1, kk2, kk3, ↓two_true, ↓two_false, oS_some, oM_some, mkv, aggAt, Nat.reduceLeDiff, Nat.reduceSub, Nat.reduceMul, implies_true, Nat.reduceEqDiff, reduceIte, Nat.reduceAdd, Nat.reduceBEq, reduceCtorEq, fa26_0, fa26_1, ld24, ln24, es, ec]
  refine two_intro (fun h => ⟨by rw [any_not, arrOk, h]; simp, _, rfl⟩) (fun h => ⟨by rw [arrOk, h]; rfl, _, rfl⟩)

set_option maxHeartbeats 4000000 in
theorem specArrayOk_ok {H : AH} {p q : Value} {m l : List Int} (hp : IntRow H p m) (hq : IntRow H q l) (l1 : m.length < 4611686018427387904) (l2 : l.length < 4611686018427387904) :
    CallsA Try.prog 33 #[.agg #[p, q]] H fun r H' => r = .bool (((l.length : Int) == sizeI m) && l.all numOk) ∧ ∃ K, H' = H ++ K := by
  have es := fun (L : AH) Φ => (specSizeOf_ok (H := H ++ L) (l := m) (IntRow.mono hp) l1).eq0 (Φ := Φ)
  obtain ⟨a, c, rfl, gq⟩ := hq.op
  refine w33 ?_
  unfold k33
  simp -implicitDefEqProofs only [kz, kk0, kk1, kk2, kk3, ↓two_true, ↓two_false, oS_some, oM_some, mkv, aggAt, Nat.reduceLeDiff, Nat.reduceSub, Nat.reduceMul, implies_true, Nat.reduceEqDiff, reduceIte, Nat.reduceAdd, Nat.reduceBEq, reduceCtorEq, fa26_0, fa26_1, ix24, ld3, ld24, ln24, es]
  refine two_intro (fun h => ?_) (fun h => ?_)
  · have : ((l.length : Int) == sizeI m) = false := by
      rw [beq_eq_false_iff_ne]
      rintro e
      simp [e] at h
    exact ⟨by rw [this]; rfl, _, rfl⟩
  · have hsz : ((l.length : Int) == sizeI m) = true := by
      rw [beq_iff_eq]
      simp at h
      exact h.symm
    refine rW_loop (σ := Nat) (fun i tm H' => tm 1 = .pointer (some ⟨H.length, 0, none⟩) ∧ tm 3 = .int .i64 i ∧ H' = H ++ [⟨[p, .slice a l.length c], .own⟩] ∧ i ≤ l.length ∧ ∀ x ∈ l.take i, numOk x = true) (fun i => l.length - i) 0 ?_ ?_
    · simp -implicitDefEqProofs [kk0, kk1, kk2, kk3, rW_block, ↓two_true, ↓two_false, rW_cond, rO_guard, oS_some, oM_some, mkv, aggAt, Nat.reduceLeDiff, Nat.reduceSub, Nat.reduceMul, cond_true, cond_false, Option.bind_some, List.length_append, List.length_cons, List.length_nil, List.append_assoc, List.cons_append, List.nil_append, List.set_cons_zero, List.set_cons_succ, List.size_toArray, List.all_cons, List.all_nil, List.drop_zero, List.drop_succ_cons, List.take_succ_cons, List.take_zero, List.mem_cons, Prod.mk.injEq, List.not_mem_nil, implies_true, List.getElem?_toArray, List.getElem?_cons_zero, List.getElem?_cons_succ, List.getElem?_nil, Option.getD_some, Option.getD_none, Nat.reduceEqDiff, reduceIte, Nat.reduceAdd, List.map_toArray, List.map_cons, List.map_nil, Bool.false_eq_true, Nat.reduceBEq, Option.map_some, Option.map_none, reduceCtorEq, fa26_0, fa26_1, ix24, ld3, ld24, ln24]
    · rintro i tm H' ⟨h1, h3, rfl, hi, hn⟩
      simp -implicitDefEqProofs only [kz, kk0, kk1, kk2, kk3, ↓two_true, ↓two_false, oS_some, oM_some, mkv, aggAt, Nat.reduceLeDiff, Nat.reduceSub, Nat.reduceMul, implies_true, Nat.reduceEqDiff, reduceIte, Nat.reduceAdd, Nat.reduceBEq, reduceCtorEq, fa26_0, fa26_1, ix24, ld3, ld24, ln24, h1, h3]
      refine two_intro (fun hc => ?_) (fun hc => ?_)
      · have hc' : i < l.length := by simpa using hc
        obtain ⟨b, o, cs, rfl, rfl, hrd, _, hcell⟩ := gq (by omega)
        have hrd2 : rd (H ++ [⟨[p, .slice (some ⟨b, o, none⟩) l.length 1], .own⟩]) b = some cs := by rw [rdl (by simp [hrd]), hrd]
        simp -implicitDefEqProofs only [kz, kk0, kk1, kk2, kk3, ↓two_true, ↓two_false, oS_some, oM_some, mkv, aggAt, Nat.reduceLeDiff, Nat.reduceSub, Nat.reduceMul, implies_true, Nat.reduceEqDiff, reduceIte, Nat.reduceAdd, Nat.reduceBEq, reduceCtorEq, fa26_0, fa26_1, ix24, ld3, ld24, ln24, h1, h3, Int.toNat_natCast, Nat.mul_one, hrd2, hcell i hc', specNumOk_eq, IntWalk.i64_in (↑i + 1) (by omega)]
        refine ⟨⟨by omega, by omega⟩, two_intro (fun h => ?_) (fun h => ?_)⟩
        · have hb : numOk l[i] = false := by simpa using h
          refine ⟨?_, _, rfl⟩
          rw [all_take_false hc' hb, Bool.and_false]
        · refine ⟨i + 1, by omega, by simp, hc', ?_⟩
          intro x hx
          rw [List.take_succ_eq_append_getElem hc'] at hx
          rcases List.mem_append.1 hx with hx | hx
          · exact hn x hx
          · rw [List.mem_singleton.1 hx]; simpa using h
      · have hc' : ¬ i < l.length := by simpa using hc
        have hil : i = l.length := by omega
        subst hil
        rw [List.take_length] at hn
        refine ⟨?_, _, rfl⟩
        rw [hsz, List.all_eq_true.2 hn]
        rfl

theorem Rp.slice {P : Program} {H : AH} {k : Nat} {t e : TypeId} {vs : List Value} (hu : P.underlying t = some (.slice e)) (h : Rp P H k t vs) :
    vs = [.slice none 0 0] ∨ ∃ b n cs, vs = [.slice (some ⟨b, 0, none⟩) n (P.cellsOf e)] ∧ H[b]? = some ⟨cs, .ro⟩ ∧ cs.length = n * P.cellsOf e ∧ n ≤ maxLen ∧ ∃ k, ∀ i, i < n → Rp P H k e ((cs.drop (i * P.cellsOf e)).take (P.cellsOf e)) := by
  cases k with
  | zero => exact h.elim
  | succ k =>
    simp only [Rp, hu] at h
    rcases h with h | ⟨b, n, cs, h1, h2, h3, h4, h5⟩
    · exact .inl h
    · exact .inr ⟨b, n, cs, h1, h2, h3, h4, k, h5⟩
theorem rd_ro {H : AH} {b : Nat} {cs : List Value} (h : H[b]? = some ⟨cs, .ro⟩) : rd H b = some cs := by simp [rd, h, rdB]
theorem Rp.ints {P : Program} {H : AH} {k : Nat} {t e : TypeId} {vs : List Value} (hu : P.underlying t = some (.slice e)) (he : P.underlying e = some (.int .i64)) (hc : P.cellsOf e = 1) (h : Rp P H k t vs) :
    ∃ v l, vs = [v] ∧ IntRow H v l ∧ l.length ≤ 9223372036854775807 ∧ ∀ x ∈ l, I64 x := by
  rcases h.slice hu with rfl | ⟨b, n, cs, rfl, h2, h3, h4, k, h5⟩
  · exact ⟨_, [], rfl, .inl ⟨rfl, rfl⟩, by simp, by simp⟩
  · rw [hc, Nat.mul_one] at h3
    have key : ∀ i (hi : i < cs.length), ∃ m, cs[i] = .int .i64 m ∧ I64 m := by
      intro i hi
      have h6 := h5 i (by omega)
      rw [hc, Nat.mul_one] at h6
      obtain ⟨m, h7, h8⟩ := h6.int he
      have h9 : ((cs.drop i).take 1)[0]? = some cs[i] := by
        rw [List.getElem?_take_of_lt (by decide), List.getElem?_drop, Nat.add_zero, List.getElem?_eq_getElem hi]
      rw [h7] at h9
      simp at h9
      exact ⟨m, h9.symm, wf_i64 h8⟩
    have hmap : cs = Go.Proofs.Ytpclegiocblpmaa.AM.ints (cs.map toI) := by
      refine List.ext_getElem (by simp [Go.Proofs.Ytpclegiocblpmaa.AM.ints]) fun i h1 h2 => ?_
      obtain ⟨m, h3, _⟩ := key i h1
      simp [Go.Proofs.Ytpclegiocblpmaa.AM.ints, h3, toI]
    refine ⟨_, cs.map toI, rfl, .inr ⟨b, 0, cs, by simp [h3, hc], rd_ro h2, by simp, ?_⟩, ?_, ?_⟩
    · rw [List.drop_zero, List.length_map, List.take_of_length_le (Nat.le_refl _)]
      exact hmap
    · simp only [List.length_map, h3]
      have : maxLen = 9223372036854775807 := by decide
      omega
    · intro x hx
      obtain ⟨y, hy, rfl⟩ := List.mem_map.1 hx
      obtain ⟨i, hi, rfl⟩ := List.mem_iff_getElem.1 hy
      obtain ⟨m, h6, h7⟩ := key i hi
      rw [h6]; exact h7
theorem Rp.bool {P : Program} {H : AH} {k : Nat} {t : TypeId} {vs : List Value} (hu : P.underlying t = some .bool) (h : Rp P H k t vs) : ∃ b, vs = [.bool b] := by
  cases k with
  | zero => exact h.elim
  | succ k => simpa only [Rp, hu] using h

theorem All2.append {H : AH} : ∀ {ks ks' : List CK} {x x' : List Value}, All2 H ks x → All2 H ks' x' → All2 H (ks ++ ks') (x ++ x')
  | [], _, x, _, h, h' => by cases h; exact h'
  | k :: ks, _, x, _, ⟨y, r, e, h1, h2⟩, h' => by subst e; exact ⟨y, _, rfl, h1, h2.append h'⟩
/-- How many numbers stand in the rows of some cells. -/
def rsum1 : CV → Nat | .r l => l.length | _ => 0
def rsum (l : List CV) : Nat := (l.map rsum1).sum
theorem rsum_append {l m : List CV} : rsum (l ++ m) = rsum l + rsum m := by simp [rsum]
theorem rsum_take {l : List CV} {p : Nat} : rsum (l.take p) ≤ rsum l := by
  have : rsum l = rsum (l.take p) + rsum (l.drop p) := by rw [← rsum_append, List.take_append_drop]
  omega
theorem splice_take_eq {xs x : List Value} {p : Nat} (h : p + x.length ≤ xs.length) : splice xs p x = xs.take p ++ x ++ xs.drop (p + x.length) := by
  refine List.ext_getElem? fun i => ?_
  rw [splice_get x xs p i h]
  have hl : (xs.take p).length = p := by simp; omega
  split
  · rename_i hi
    rw [List.append_assoc, List.getElem?_append_right (by omega), hl, List.getElem?_append_left (by omega)]
  · rename_i hi
    rcases Nat.lt_or_ge i p with h1 | h1
    · rw [List.append_assoc, List.getElem?_append_left (by omega), List.getElem?_take_of_lt h1]
    · rw [List.getElem?_append_right (by simp; omega), List.getElem?_drop]
      congr 1
      simp
      omega
/-- A whole element is written. -/
theorem New.put {H0 H1 H : AH} {ks : List CK} {n b i : Nat} {ys x : List Value} (s : Nat) (hs : ks.length = s) (h : New H0 H1 (.slice (some ⟨b, 0, none⟩) n s) ks n ys) (he : ∃ K, H = H1 ++ K) (hi : i < n) (hx : All2 H ks x) (ho : ∀ y ∈ x, OwnC H y) (hf : ∀ y ∈ x, ∀ b, blkOf y = some b → H1.length ≤ b)
    (hdj : x.Pairwise Dj) (h0 : H0.length ≤ H1.length) :
    ∃ cs, H[b]? = some ⟨cs, .own⟩ ∧ i * s + s ≤ cs.length ∧ New H0 (H.set b ⟨splice cs (0 + i * s) x, .own⟩) (.slice (some ⟨b, 0, none⟩) n s) ks n (splice ys (i * s) x) ∧
      (cvs (H.set b ⟨splice cs (0 + i * s) x, .own⟩) (splice ys (i * s) x)).take ((i + 1) * s) = (cvs H1 ys).take (i * s) ++ x.map (cv H) := by
  subst hs
  have hot := h.ot
  obtain ⟨K, rfl⟩ := he
  have hot2 := h.ot.mono (L := K)
  have hr := row_lt (s := ks.length) hi
  have hxl := hx.len
  have hyl := hot.len
  rcases hot2.row with ⟨h1, _⟩ | ⟨b', o', cs, h1, h2, h3, h4⟩
  · cases h1
  simp only [Value.slice.injEq, Option.some.injEq, Addr.mk.injEq] at h1
  obtain ⟨⟨rfl, rfl, _⟩, _, _⟩ := h1
  have hb1 : b < H1.length := hot.lt b (.inl rfl)
  refine ⟨cs, h2, by omega, ?_, ?_⟩
  all_goals
    have hs2 : ∀ g, g ≠ b → ((H1 ++ K).set b ⟨splice cs (0 + i * ks.length) x, .own⟩)[g]? = (H1 ++ K)[g]? := fun g hg => List.getElem?_set_ne (Ne.symm hg)
    have hget : ∀ (j : Nat) y, (splice ys (i * ks.length) x)[j]? = some y → (i * ks.length ≤ j ∧ j < i * ks.length + ks.length ∧ x[j - i * ks.length]? = some y) ∨ (¬ (i * ks.length ≤ j ∧ j < i * ks.length + ks.length) ∧ ys[j]? = some y) := by
      intro j y hy
      rw [splice_get x ys _ j (by omega), hxl] at hy
      split at hy
      · rename_i hj; exact .inl ⟨hj.1, hj.2, hy⟩
      · rename_i hj; exact .inr ⟨hj, hy⟩
    have hcell : ∀ y, (y ∈ x ∨ y ∈ ys) → ∀ g, blkOf y = some g → ((H1 ++ K).set b ⟨splice cs (0 + i * ks.length) x, .own⟩)[g]? = (H1 ++ K)[g]? := by
      intro y hy g hg
      refine hs2 g ?_
      rintro rfl
      rcases hy with hy | hy
      · have := hf y hy g hg; omega
      · obtain ⟨j, hj⟩ := List.mem_iff_getElem?.1 hy
        exact hot.out j y hj g rfl hg
  · refine ⟨⟨by rw [splice_length]; exact hyl, .inr ⟨b, 0, _, rfl, set_at h2, by rw [splice_length]; omega, ?_⟩, ?_, ?_, ?_, ?_⟩, ?_⟩
    · intro j y hy
      rw [splice_get x cs _ _ (by omega), hxl]
      rcases hget j y hy with ⟨a1, a2, a3⟩ | ⟨a1, a2⟩
      · rw [if_pos (by omega), show 0 + j - (0 + i * ks.length) = j - i * ks.length by omega]; exact a3
      · rw [if_neg (by omega)]; exact h4 j y a2
    · intro i' c k y hi' hk hy
      have hc := (List.getElem?_eq_some_iff.1 hk).1
      rcases hget _ y hy with ⟨a1, a2, a3⟩ | ⟨a1, a2⟩
      · have e : i' = i := by
          rcases Nat.lt_trichotomy i' i with h5 | h5 | h5
          · have := row_lt (s := ks.length) h5; omega
          · exact h5
          · have := row_lt (s := ks.length) h5; omega
        subst e
        rw [Nat.add_sub_cancel_left] at a3
        exact (hx.get c k y hk a3).same fun g hg => get_rd (hcell y (.inl (List.mem_of_getElem? a3)) g hg)
      · exact (hot2.ok i' c k y hi' hk a2).same fun g hg => get_rd (hcell y (.inr (List.mem_of_getElem? a2)) g hg)
    · intro j y hy
      rcases hget j y hy with ⟨a1, a2, a3⟩ | ⟨a1, a2⟩
      · exact (ho y (List.mem_of_getElem? a3)).same (hcell y (.inl (List.mem_of_getElem? a3)))
      · exact (hot2.own j y a2).same (hcell y (.inr (List.mem_of_getElem? a2)))
    · intro j y hy g hg hg2
      simp [blkOf] at hg
      subst hg
      rcases hget j y hy with ⟨a1, a2, a3⟩ | ⟨a1, a2⟩
      · have := hf y (List.mem_of_getElem? a3) b hg2; omega
      · exact hot.out j y a2 b rfl hg2
    · intro j j' y z hjj hy hz
      have cross : ∀ y z, y ∈ x → z ∈ ys → Dj y z := fun y z hy hz g hg hg2 => by
        have := hf y hy g hg; have := hot.lt g (.inr ⟨z, hz, hg2⟩); omega
      rcases hget j y hy with ⟨a1, a2, a3⟩ | ⟨a1, a2⟩ <;> rcases hget j' z hz with ⟨b1, b2, b3⟩ | ⟨b1, b2⟩
      · exact pw_get hdj _ _ y z (by omega) a3 b3
      · exact cross y z (List.mem_of_getElem? a3) (List.mem_of_getElem? b2)
      · exact (cross z y (List.mem_of_getElem? b3) (List.mem_of_getElem? a2)).symm
      · exact hot.dif j j' y z hjj a2 b2
    · rintro g (hg | ⟨y, hy, hg⟩)
      · exact h.fr g (.inl hg)
      · obtain ⟨j, hj⟩ := List.mem_iff_getElem?.1 hy
        rcases hget j y hj with ⟨a1, a2, a3⟩ | ⟨a1, a2⟩
        · have := hf y (List.mem_of_getElem? a3) g hg; omega
        · exact h.fr g (.inr ⟨y, List.mem_of_getElem? a2, hg⟩)
  · have e1 : splice ys (i * ks.length) x = ys.take (i * ks.length) ++ x ++ ys.drop (i * ks.length + x.length) := splice_take_eq (by omega)
    rw [e1]
    unfold cvs
    rw [List.map_append, List.take_append_of_le_length (by simp; rw [Nat.add_mul]; omega), List.take_of_length_le (by simp; rw [Nat.add_mul]; omega), List.map_append, ← List.map_take]
    congr 1
    · refine List.map_congr_left fun y hy => ?_
      have hmem := List.mem_of_mem_take hy
      rw [cv_same fun g hg => get_rd (hcell y (.inr hmem) g hg)]
      obtain ⟨j, hj⟩ := List.mem_iff_getElem?.1 hmem
      obtain ⟨kd, hkd⟩ := hot.frow.cell hj
      exact cv_mono hkd
    · exact List.map_congr_left fun y hy => cv_same fun g hg => get_rd (hcell y (.inl hy) g hg)

inductive Comp where
  | cells (ks : List CK) (xs : List Value)
  | row (v : Value) (ks : List CK) (n : Nat) (xs : List Value)
def Comp.xs : Comp → List Value
  | .cells _ xs => xs
  | .row _ _ _ xs => xs
def Comp.bs : Comp → Nat → Prop
  | .cells _ xs, b => ∃ y ∈ xs, blkOf y = some b
  | .row v _ _ xs, b => blkOf v = some b ∨ ∃ y ∈ xs, blkOf y = some b
def Comp.rd (H : AH) : Comp → Prop
  | .cells ks xs => All2 H ks xs
  | .row v ks n xs => FRow H v ks n xs
def Comp.own (H : AH) : Comp → Prop
  | .cells ks xs => All2 H ks xs ∧ (∀ y ∈ xs, OwnC H y) ∧ xs.Pairwise Dj
  | .row v ks n xs => OT H v ks n xs
theorem All2.rdable {H : AH} {ks : List CK} {xs : List Value} (h : All2 H ks xs) : ∀ b, (∃ y ∈ xs, blkOf y = some b) → (Go.Proofs.Ytpclegiocblpmaa.AM.rd H b).isSome = true := by
  rintro b ⟨y, hy, hb⟩
  obtain ⟨k, hk⟩ := h.mem hy
  exact hk.rdable b hb
theorem All2.same {H H' : AH} {ks : List CK} {xs : List Value} (h : All2 H ks xs) (hs : ∀ b, (∃ y ∈ xs, blkOf y = some b) → Go.Proofs.Ytpclegiocblpmaa.AM.rd H' b = Go.Proofs.Ytpclegiocblpmaa.AM.rd H b) : All2 H' ks xs :=
  All2.of h.len fun c k y hk hy => (h.get c k y hk hy).same fun b hb => hs b ⟨y, List.mem_of_getElem? hy, hb⟩
theorem Comp.own.rd {H : AH} {c : Comp} (h : c.own H) : c.rd H := by
  cases c with
  | cells ks xs => exact h.1
  | row v ks n xs => exact OT.frow h
theorem Comp.rd.able {H : AH} {c : Comp} (h : c.rd H) : ∀ b, c.bs b → (Go.Proofs.Ytpclegiocblpmaa.AM.rd H b).isSome = true := by
  cases c with
  | cells ks xs => exact All2.rdable h
  | row v ks n xs => exact FRow.rdable h
theorem rd_lt {H : AH} {b : Nat} (h : (Go.Proofs.Ytpclegiocblpmaa.AM.rd H b).isSome = true) : b < H.length := by
  rcases Nat.lt_or_ge b H.length with h1 | h1
  · exact h1
  · unfold Go.Proofs.Ytpclegiocblpmaa.AM.rd at h; rw [List.getElem?_eq_none h1] at h; cases h
theorem Comp.rd.same {H H' : AH} {c : Comp} (h : c.rd H) (hs : ∀ b, c.bs b → H'[b]? = H[b]?) : c.rd H' ∧ cvs H' c.xs = cvs H c.xs := by
  cases c with
  | cells ks xs => exact ⟨All2.same h fun b hb => get_rd (hs b hb), FRow.cvs_same fun b hb => get_rd (hs b hb)⟩
  | row v ks n xs => exact ⟨FRow.same h fun b hb => get_rd (hs b hb), FRow.cvs_same fun b hb => get_rd (hs b (.inr hb))⟩
theorem Comp.own.same {H H' : AH} {c : Comp} (h : c.own H) (hs : ∀ b, c.bs b → H'[b]? = H[b]?) : c.own H' := by
  cases c with
  | cells ks xs => exact ⟨(Comp.rd.same (c := .cells ks xs) h.1 hs).1, fun y hy => (h.2.1 y hy).same fun b hb => hs b ⟨y, hy, hb⟩, h.2.2⟩
  | row v ks n xs => exact OT.same h hs
def bsL (l : List Comp) (b : Nat) : Prop := ∃ c ∈ l, c.bs b
def Rd (H : AH) (l : List Comp) : Prop := ∀ c ∈ l, c.rd H
def cdj (c d : Comp) : Prop := ∀ b, c.bs b → ¬ d.bs b
def Own (H : AH) (l : List Comp) : Prop := (∀ c ∈ l, c.own H) ∧ l.Pairwise cdj
def mvs (H : AH) (l : List Comp) : List (List CV) := l.map fun c => cvs H c.xs
theorem Own.rd {H : AH} {l : List Comp} (h : Own H l) : Rd H l := fun c hc => (h.1 c hc).rd
theorem Rd.same {H H' : AH} {l : List Comp} (h : Rd H l) (hs : ∀ b, bsL l b → H'[b]? = H[b]?) : Rd H' l ∧ mvs H' l = mvs H l :=
  ⟨fun c hc => (Comp.rd.same (h c hc) fun b hb => hs b ⟨c, hc, hb⟩).1, List.map_congr_left fun c hc => (Comp.rd.same (h c hc) fun b hb => hs b ⟨c, hc, hb⟩).2⟩
theorem Own.same {H H' : AH} {l : List Comp} (h : Own H l) (hs : ∀ b, bsL l b → H'[b]? = H[b]?) : Own H' l := ⟨fun c hc => (h.1 c hc).same fun b hb => hs b ⟨c, hc, hb⟩, h.2⟩
theorem Rd.lt {H : AH} {l : List Comp} (h : Rd H l) : ∀ b, bsL l b → b < H.length := by
  rintro b ⟨c, hc, hb⟩
  exact rd_lt (Comp.rd.able (h c hc) b hb)
inductive LI where
  | blk (b : Nat) (k : Blk)
  | rd (l : List Comp) (V : List (List CV))
  | own (l : List Comp) (V : List (List CV))
def LI.ok (H : AH) : LI → Prop
  | .blk b k => H[b]? = some k
  | .rd l V => Rd H l ∧ mvs H l = V
  | .own l V => Own H l ∧ mvs H l = V
def LI.bs : LI → Nat → Prop
  | .blk b _, g => g = b
  | .rd l _, g => bsL l g
  | .own l _, g => bsL l g
theorem LI.ok.same {H H' : AH} {x : LI} (h : x.ok H) (hs : ∀ b, x.bs b → H'[b]? = H[b]?) : x.ok H' := by
  cases x with
  | blk b k => show H'[b]? = some k; rw [hs b rfl]; exact h
  | rd l V => obtain ⟨h1, h2⟩ := Rd.same h.1 hs; exact ⟨h1, by rw [h2]; exact h.2⟩
  | own l V => exact ⟨h.1.same hs, by rw [(Rd.same h.1.rd hs).2]; exact h.2⟩
theorem LI.ok.lt {H : AH} {x : LI} (h : x.ok H) : ∀ b, x.bs b → b < H.length := by
  cases x with
  | blk b k => intro g hg; cases hg; exact (List.getElem?_eq_some_iff.1 h).1
  | rd l V => exact Rd.lt h.1
  | own l V => exact Rd.lt h.1.rd
theorem LI.ok.ext {H H' : AH} {x : LI} (h : x.ok H) (he : ∃ K, H' = H ++ K) : x.ok H' := by
  obtain ⟨K, rfl⟩ := he
  exact h.same fun b hb => List.getElem?_append_left (h.lt b hb)
theorem LI.ok.box {H : AH} {cs : List Value} : LI.ok (H ++ [⟨cs, .own⟩]) (.blk H.length ⟨cs, .own⟩) := by
  show (H ++ [⟨cs, .own⟩])[H.length]? = _
  rw [gt0]; rfl
/-- What is alive stands beside the blocks from 'lo' to 'hi'. -/
def LI.off (lo hi : Nat) (x : LI) : Prop := ∀ b, x.bs b → ¬ (lo ≤ b ∧ b < hi)
theorem LI.ok.frame {H H' : AH} {x : LI} {lo hi : Nat} (h : x.ok H) (hf : ∀ b, b < H.length → ¬ (lo ≤ b ∧ b < hi) → H'[b]? = H[b]?) (ho : x.off lo hi) : x.ok H' := h.same fun b hb => hf b (h.lt b hb) (ho b hb)
/-- The blocks of what is alive. -/
def LI.rg (lo hi : Nat) (x : LI) : Prop := ∀ b, x.bs b → lo ≤ b ∧ b < hi
theorem LI.rg.off {x : LI} {lo hi lo' hi' : Nat} (h : x.rg lo hi) (hd : hi ≤ lo' ∨ hi' ≤ lo) : x.off lo' hi' := fun b hb => by have := h b hb; omega
/-- New things. -/
structure NewL (H0 H : AH) (l : List Comp) (V : List (List CV)) : Prop where
  own : Own H l
  fr : ∀ b, bsL l b → H0.length ≤ b
  vals : mvs H l = V
theorem NewL.ok {H0 H : AH} {l : List Comp} {V : List (List CV)} (h : NewL H0 H l V) : LI.ok H (.own l V) ∧ LI.rg H0.length H.length (.own l V) :=
  ⟨⟨h.own, h.vals⟩, fun b hb => ⟨h.fr b hb, h.own.rd.lt b hb⟩⟩
/-- What marking does. -/
structure Marked (H : AH) (l : List Comp) (k : Int) (H' : AH) (l' : List Comp) : Prop where
  own : Own H' l'
  bs : ∀ b, bsL l' b ↔ bsL l b
  len : H.length ≤ H'.length
  frame : ∀ b, b < H.length → ¬ bsL l b → H'[b]? = H[b]?
  vals : (mvs H' l').flatten = markF (mvs H l).flatten k
theorem Marked.ok {H H' : AH} {l l' : List Comp} {V : List (List CV)} {k : Int} {lo hi : Nat} (h : Marked H l k H' l') (hr : LI.rg lo hi (.own l V)) : LI.ok H' (.own l' (mvs H' l')) ∧ (∀ b, b < H.length → ¬ (lo ≤ b ∧ b < hi) → H'[b]? = H[b]?) :=
  ⟨⟨h.own, rfl⟩, fun b hl hb => h.frame b hl fun hb2 => hb (hr b hb2)⟩
theorem LI.ok.rd {H : AH} {l : List Comp} {V : List (List CV)} (h : LI.ok H (.own l V)) : LI.ok H (.rd l V) := ⟨h.1.rd, h.2⟩
theorem LI.row {H : AH} {v : Value} {ks : List CK} {n : Nat} {xs : List Value} {V : List CV} (h : LI.ok H (.rd [.row v ks n xs] [V])) : FRow H v ks n xs ∧ cvs H xs = V := by
  refine ⟨h.1 _ (List.mem_singleton.2 rfl), ?_⟩
  have := h.2
  simpa [mvs, Comp.xs] using this
theorem numOk_iff {x : Int} : numOk x = true ↔ -1000000000000 ≤ x ∧ x ≤ 1000000000000 := by unfold numOk; exact inB_true
set_option maxHeartbeats 4000000 in
theorem specShapeOk_ok {H : AH} {v : Value} {l : List Int} (hv : IntRow H v l) (hl : l.length < 4611686018427387904) : CallsA Try.prog 70 #[v] H fun r H' => r = .bool (decide (sizeI l ≥ 0)) ∧ H' = H := by
  have e := fun Φ => (specSizeOf_ok hv hl).eq0 (Φ := Φ)
  refine w70 ?_
  unfold k70
  simp -implicitDefEqProofs only [kz, kk0, kk1, kk2, kk3, ↓two_true, ↓two_false, oS_some, oM_some, mkv, aggAt, Nat.reduceLeDiff, Nat.reduceSub, Nat.reduceMul, implies_true, Nat.reduceEqDiff, reduceIte, Nat.reduceAdd, Nat.reduceBEq, reduceCtorEq, e]

set_option maxHeartbeats 4000000 in
theorem implShapeOk_ok {H : AH} {v : Value} {l : List Int} (hv : IntRow H v l) (hl : l.length < 4611686018427387904) : CallsA Try.prog 67 #[v] H fun r H' => r = .bool (decide (sizeI l ≥ 0)) ∧ H' = H := by
  have e := fun Φ => (implSizeOf_ok hv hl).eq0 (Φ := Φ)
  refine w67 ?_
  unfold k67
  simp -implicitDefEqProofs only [kz, kk0, kk1, kk2, kk3, ↓two_true, ↓two_false, oS_some, oM_some, mkv, aggAt, Nat.reduceLeDiff, Nat.reduceSub, Nat.reduceMul, implies_true, Nat.reduceEqDiff, reduceIte, Nat.reduceAdd, Nat.reduceBEq, reduceCtorEq, e]

set_option maxHeartbeats 4000000 in
theorem growI_ok {n : Nat} (hn : n ≤ 1073741824) (H : AH) : CallsA Try.prog 72 #[.slice none 0 0, .int .i64 n] H fun r H' => (∃ a c, r = .slice a 0 c ∧ OwnRow H' (.slice a 0 c) [] ∧ ∀ b, blkOf (.slice a 0 c) = some b → H.length ≤ b) ∧ ∃ K, H' = H ++ K := by
  have w0 : IntKind.i64.wrap ((0 : Int) - ((0 : Nat) : Int)) = 0 := rfl
  have w1 : IntKind.i64.wrap ((n : Int) - 0) = n := by
    have : (n : Int) - 0 = n := by omega
    rw [this]
    first | exact IntWalk.i64_in _ (by omega) | rfl
  have d0 : decide ((n : Int) < 0) = false := by simp
  refine w72 ?_
  unfold k72
  simp -implicitDefEqProofs only [kz, kk0, kk1, kk2, kk3, ↓two_true, ↓two_false, oS_some, oM_some, mkv, aggAt, Nat.reduceLeDiff, Nat.reduceSub, Nat.reduceMul, implies_true, Nat.reduceEqDiff, reduceIte, Nat.reduceAdd, Nat.reduceBEq, reduceCtorEq, az24_3, cp24, ln24, sn24, sl24, d0, w0, w1]
  refine two_intro (fun h => ?_) (fun h => ?_)
  · have h' : 0 < n := by simpa using h
    refine ⟨⟨by omega, by omega, by omega⟩, ⟨by omega, by omega⟩, ⟨by omega, by omega, by omega⟩, ⟨_, _, rfl, OwnRow.at0 (by rw [gt0]; rfl), fun b hb => by simp [blkOf] at hb; omega⟩, _, rfl⟩
  · exact ⟨⟨_, _, rfl, OwnRow.nil, fun b hb => by simp [blkOf] at hb⟩, [], by simp⟩

def flatR (V : List CV) : List Int := (V.map fun x => match x with | .r l => l | _ => []).flatten
theorem flatR_snoc {V : List CV} {l : List Int} : flatR (V ++ [.r l]) = flatR V ++ l := by simp [flatR]
theorem flatR_len {V : List CV} : (flatR V).length = rsum V := by
  induction V with
  | nil => rfl
  | cons x V ih =>
    simp only [flatR, rsum, List.map_cons, List.flatten_cons, List.length_append, List.sum_cons] at ih ⊢
    rw [ih]
    cases x <;> rfl
set_option maxHeartbeats 4000000 in
theorem concatI_ok {H : AH} {v : Value} {n : Nat} {xs : List Value} (hv : FRow H v [.r] n xs) (hn : n ≤ 1048576) (hl : rsum (cvs H xs) ≤ 1073741824) :
    CallsA Try.prog 42 #[v] H fun r H' => (∃ a c, r = .slice a (flatR (cvs H xs)).length c ∧ OwnRow H' r (flatR (cvs H xs)) ∧ ∀ b, blkOf r = some b → H.length ≤ b) ∧ ∃ K, H' = H ++ K := by
  obtain ⟨a, c, rfl, gv⟩ := hv.opn 1 rfl
  have lx : xs.length = n * 1 := hv.len
  refine w42 ?_
  unfold k42
  simp -implicitDefEqProofs only [kz, kk0, kk1, kk2, kk3, ↓two_true, ↓two_false, oS_some, oM_some, mkv, aggAt, Nat.reduceLeDiff, Nat.reduceSub, Nat.reduceMul, implies_true, Nat.reduceEqDiff, reduceIte, Nat.reduceAdd, Nat.reduceBEq, reduceCtorEq, ap24_24, ix89, ld24, ln24, ln89]
  refine rW_loop (σ := Nat) (fun i tm H' => tm 0 = .slice a n c ∧ tm 9 = .slice a n c ∧ tm 10 = .int .i64 n ∧ tm 11 = .int .i64 i ∧ tm 3 = .int .i64 (rsum ((cvs H xs).take i)) ∧ i ≤ n ∧ H' = H) (fun i => n - i) 0 ?_ ?_
  · simp -implicitDefEqProofs [kk0, kk1, kk2, kk3, rW_block, ↓two_true, ↓two_false, rW_cond, rO_guard, oS_some, oM_some, mkv, aggAt, Nat.reduceLeDiff, Nat.reduceSub, Nat.reduceMul, cond_true, cond_false, Option.bind_some, List.length_append, List.length_cons, List.length_nil, List.append_assoc, List.cons_append, List.nil_append, List.set_cons_zero, List.set_cons_succ, List.size_toArray, List.all_cons, List.all_nil, List.drop_zero, List.drop_succ_cons, List.take_succ_cons, List.take_zero, List.mem_cons, Prod.mk.injEq, List.not_mem_nil, implies_true, List.getElem?_toArray, List.getElem?_cons_zero, List.getElem?_cons_succ, List.getElem?_nil, Option.getD_some, Option.getD_none, Nat.reduceEqDiff, reduceIte, Nat.reduceAdd, List.map_toArray, List.map_cons, List.map_nil, Bool.false_eq_true, Nat.reduceBEq, Option.map_some, Option.map_none, reduceCtorEq, ap24_24, ix89, ld24, ln24, ln89, rsum]
  · rintro i tm H' ⟨h0, h9, h10, h11, h3, hi, rfl⟩
    simp -implicitDefEqProofs only [kz, kk0, kk1, kk2, kk3, ↓two_true, ↓two_false, oS_some, oM_some, mkv, aggAt, Nat.reduceLeDiff, Nat.reduceSub, Nat.reduceMul, implies_true, Nat.reduceEqDiff, reduceIte, Nat.reduceAdd, Nat.reduceBEq, reduceCtorEq, ap24_24, ix89, ld24, ln24, ln89, h0, h9, h10, h11, h3]
    refine two_intro (fun hc => ?_) (fun hc => ?_)
    · have hlt : i < n := by simpa using hc
      obtain ⟨b, o, cs, rfl, rfl, hrd, hle, hcell⟩ := gv (by omega)
      obtain ⟨hagg, hce⟩ := hcell i hlt
      obtain ⟨y, _, e, k0, rfl⟩ := hv.elemn 1 rfl hlt
      rw [e] at hce
      have f0 : cs[o + i * 1]? = some y := hce 0 _ rfl
      have hsum : (cvs H' xs).take (i + 1) = (cvs H' xs).take i ++ [.r (rowI H' y)] := by
        have := cvs_take (H := H') (s := 1) (i := i) (xs := xs)
        rw [e] at this
        simp only [Nat.mul_one, List.map_cons, List.map_nil, cv_row k0.1] at this
        exact this
      have hs2 : rsum ((cvs H' xs).take (i + 1)) = rsum ((cvs H' xs).take i) + (rowI H' y).length := by rw [hsum, rsum_append]; simp [rsum, rsum1]
      have hs3 := rsum_take (l := cvs H' xs) (p := i + 1)
      obtain ⟨a1, c1, e1⟩ := k0.1.slice
      generalize rowI H' y = m at *
      subst e1
      rw [Nat.mul_one] at f0
      have d0 : decide (((rsum ((cvs H' xs).take i) : Int) + (m.length : Int)) < 0) = false := by simp; omega
      have w1 : IntKind.i64.wrap ((rsum ((cvs H' xs).take i) : Int) + (m.length : Int)) = (rsum ((cvs H' xs).take i) : Int) + (m.length : Int) := IntWalk.i64_in _ (by omega)
      simp -implicitDefEqProofs only [kz, kk0, kk1, kk2, kk3, ↓two_true, ↓two_false, oS_some, oM_some, mkv, aggAt, Nat.reduceLeDiff, Nat.reduceSub, Nat.reduceMul, implies_true, Nat.reduceEqDiff, reduceIte, Nat.reduceAdd, Nat.reduceBEq, reduceCtorEq, ap24_24, ix89, ld24, ln24, ln89, h0, h9, h10, h11, h3, Int.toNat_natCast, Nat.mul_one, hrd, f0, w1, d0, IntWalk.i64_in (↑i + 1) (by omega)]
      exact ⟨⟨by omega, by omega⟩, i + 1, by omega, by simp, by rw [hs2]; simp, hlt⟩
    · have hil : i = n := by have : ¬ i < n := by simpa using hc
                             omega
      subst hil
      have etk : (cvs H' xs).take i = cvs H' xs := List.take_of_length_le (by simp [cvs, lx])
      rw [etk]
      refine (growI_ok hl H').mono ?_
      rintro _ H2 ⟨⟨ga, gc, rfl, ho, hf⟩, hK⟩
      simp -implicitDefEqProofs only [kz, kk0, kk1, kk2, kk3, ↓two_true, ↓two_false, oS_some, oM_some, mkv, aggAt, Nat.reduceLeDiff, Nat.reduceSub, Nat.reduceMul, implies_true, Nat.reduceEqDiff, reduceIte, Nat.reduceAdd, Nat.reduceBEq, reduceCtorEq, ap24_24, ix89, ld24, ln24, ln89, h0]
      refine rW_loop (σ := Nat × Option Addr × Nat) (fun (j, a', c') tm H3 => tm 25 = .slice a i c ∧ tm 26 = .int .i64 i ∧ tm 27 = .int .i64 j ∧ tm 6 = .slice a' (flatR ((cvs H' xs).take j)).length c' ∧ j ≤ i ∧ OwnRow H3 (.slice a' (flatR ((cvs H' xs).take j)).length c') (flatR ((cvs H' xs).take j)) ∧ (∀ b, blkOf (.slice a' (flatR ((cvs H' xs).take j)).length c') = some b → H'.length ≤ b) ∧ ∃ K, H3 = H' ++ K) (fun s => i - s.1) (0, ga, gc) ?_ ?_
      · simp -implicitDefEqProofs [kk0, kk1, kk2, kk3, rW_block, ↓two_true, ↓two_false, rW_cond, rO_guard, oS_some, oM_some, mkv, aggAt, Nat.reduceLeDiff, Nat.reduceSub, Nat.reduceMul, cond_true, cond_false, Option.bind_some, List.length_append, List.length_cons, List.length_nil, List.append_assoc, List.cons_append, List.nil_append, List.set_cons_zero, List.set_cons_succ, List.size_toArray, List.all_cons, List.all_nil, List.drop_zero, List.drop_succ_cons, List.take_succ_cons, List.take_zero, List.mem_cons, Prod.mk.injEq, List.not_mem_nil, implies_true, List.getElem?_toArray, List.getElem?_cons_zero, List.getElem?_cons_succ, List.getElem?_nil, Option.getD_some, Option.getD_none, Nat.reduceEqDiff, reduceIte, Nat.reduceAdd, List.map_toArray, List.map_cons, List.map_nil, Bool.false_eq_true, Nat.reduceBEq, Option.map_some, Option.map_none, reduceCtorEq, ap24_24, ix89, ld24, ln24, ln89, flatR]
        exact ⟨ho, hf, hK⟩
      · clear h9 h10 h11 h3
        rintro ⟨j, a', c'⟩ tm H3 ⟨h25, h26, h27, h6, hj, ho3, hf3, he3⟩
        simp -implicitDefEqProofs only [kz, kk0, kk1, kk2, kk3, ↓two_true, ↓two_false, oS_some, oM_some, mkv, aggAt, Nat.reduceLeDiff, Nat.reduceSub, Nat.reduceMul, implies_true, Nat.reduceEqDiff, reduceIte, Nat.reduceAdd, Nat.reduceBEq, reduceCtorEq, ap24_24, ix89, ld24, ln24, ln89, h25, h26, h27, h6]
        refine two_intro (fun hc2 => ?_) (fun hc2 => ?_)
        · have hlt : j < i := by simpa using hc2
          obtain ⟨b, o, cs, rfl, rfl, hrd, hle, hcell⟩ := gv (by omega)
          obtain ⟨hagg, hce⟩ := hcell j hlt
          obtain ⟨y, _, e, k0, rfl⟩ := hv.elemn 1 rfl hlt
          rw [e] at hce
          have f0 : cs[o + j * 1]? = some y := hce 0 _ rfl
          have hsum : (cvs H' xs).take (j + 1) = (cvs H' xs).take j ++ [.r (rowI H' y)] := by
            have := cvs_take (H := H') (s := 1) (i := j) (xs := xs)
            rw [e] at this
            simp only [Nat.mul_one, List.map_cons, List.map_nil, cv_row k0.1] at this
            exact this
          have hs3 := rsum_take (l := cvs H' xs) (p := j + 1)
          have hfl : flatR ((cvs H' xs).take (j + 1)) = flatR ((cvs H' xs).take j) ++ rowI H' y := by rw [hsum, flatR_snoc]
          have hfll := flatR_len (V := (cvs H' xs).take (j + 1))
          rw [hfl, List.length_append] at hfll
          have hrow : IntRow H3 y (rowI H' y) := IntRow.ext k0.1 he3
          have hrd3 := rd_ext hrd he3
          obtain ⟨a1, c1, e1⟩ := k0.1.slice
          generalize rowI H' y = m at *
          subst e1
          rw [Nat.mul_one] at f0
          simp -implicitDefEqProofs only [kz, kk0, kk1, kk2, kk3, ↓two_true, ↓two_false, oS_some, oM_some, mkv, aggAt, Nat.reduceLeDiff, Nat.reduceSub, Nat.reduceMul, implies_true, Nat.reduceEqDiff, reduceIte, Nat.reduceAdd, Nat.reduceBEq, reduceCtorEq, ap24_24, ix89, ld24, ln24, ln89, h25, h26, h27, h6, Int.toNat_natCast, Nat.mul_one, hrd3, f0]
          refine ⟨⟨by omega, by omega⟩, ?_⟩
          refine oA_own ho3 hrow (by omega) fun a6 c6 H5 o6 x7 => ?_
          have he5 := x7.ext he3 hf3
          have hff := fun b (hb : blkOf (.slice a6 ((flatR ((cvs H' xs).take j)).length + m.length) c6) = some b) => (x7.new b hb).elim (hf3 b) fun h => by have := ext_len he3; omega
          rw [← List.length_append, ← hfl] at o6 hff ⊢
          simp -implicitDefEqProofs only [kz, kk0, kk1, kk2, kk3, ↓two_true, ↓two_false, oS_some, oM_some, mkv, aggAt, Nat.reduceLeDiff, Nat.reduceSub, Nat.reduceMul, implies_true, Nat.reduceEqDiff, reduceIte, Nat.reduceAdd, Nat.reduceBEq, reduceCtorEq, ap24_24, ix89, ld24, ln24, ln89, h25, h26, h27, h6, IntWalk.i64_in (↑j + 1) (by omega)]
          exact ⟨(j + 1, a6, c6), by simp only; omega, by simp, rfl, hlt, o6, hff, he5⟩
        · have hjl : j = i := by have : ¬ j < i := by simpa using hc2
                                 omega
          subst hjl
          rw [etk] at ho3 hf3 h6 ⊢
          exact ⟨⟨a', c', rfl, ho3, hf3⟩, he3⟩

theorem sizeI_le {l : List Int} : sizeI l ≤ 300 := by
  unfold sizeI
  split
  · omega
  · split
    · split <;> omega
    · omega
theorem arrOk_len {sh dt : List Int} (h : arrOk sh dt = true) : dt.length ≤ 300 := by
  unfold arrOk at h
  simp only [Bool.and_eq_true, beq_iff_eq] at h
  have := sizeI_le (l := sh)
  omega
theorem fRow2 {H : AH} {b : Nat} {p q : Value} (hb : H[b]? = some ⟨[p, q], .own⟩) (hp : KOk H .r p) (hq : KOk H .r q) : FRow H (.slice (some ⟨b, 0, none⟩) 2 1) [.r] 2 [p, q] := by
  refine ⟨rfl, .inr ⟨b, 0, [p, q], rfl, rd_own hb, by simp, fun j y hy => by rw [Nat.zero_add]; exact hy⟩, ?_⟩
  intro i c k y hi hk hy
  cases c with
  | zero =>
    simp at hk; subst hk
    match i, hi with
    | 0, _ => simp at hy; subst hy; exact hp
    | 1, _ => simp at hy; subst hy; exact hq
  | succ c => simp at hk
/-- What a function answers that makes an array and a code. -/
def ARes (H H' : AH) (r : Value) (R : (List Int × List Int) × Int) : Prop :=
  (∃ a c b d, r = .tuple #[.agg #[.slice a R.1.1.length c, .slice b R.1.2.length d], .int .i64 R.2] ∧ AOwn H H' (.agg #[.slice a R.1.1.length c, .slice b R.1.2.length d]) R.1.1 R.1.2 (.slice a R.1.1.length c) (.slice b R.1.2.length d)) ∧ ∃ K, H' = H ++ K
theorem ARes.nil {H H' : AH} {c : Int} (he : ∃ K, H' = H ++ K) : ARes H H' (.tuple #[.agg #[.slice none 0 0, .slice none 0 0], .int .i64 c]) (([], []), c) :=
  ⟨⟨Option.none, 0, Option.none, 0, rfl, ⟨rfl, OwnRow.nil, OwnRow.nil, fun b hb => by simp [blkOf] at hb, fun b hb => by simp [blkOf] at hb, fun b hb => by simp [blkOf] at hb⟩⟩, he⟩
structure Gro (H0 : AH) (bx : List (Nat × Blk)) (o : Nat) (sh : Value) (ss : List Int) (a' : Option Addr) (c' : Nat) (l : List Int) (H : AH) : Prop where
  bs : ∀ x ∈ bx, H[x.1]? = some x.2 ∧ x.1 < o
  out : H[o]? = some ⟨[sh, .slice a' l.length c'], .own⟩
  osh : OwnRow H sh ss
  od : OwnRow H (.slice a' l.length c') l
  nd : ∀ b, blkOf (.slice a' l.length c') = some b → o < b
  ns : ∀ b, blkOf sh = some b → H0.length ≤ b ∧ b < o ∧ ∀ x ∈ bx, x.1 ≠ b
  n0 : H0.length ≤ o
  ext : ∃ K, H = H0 ++ K
theorem Gro.mono {H0 H L : AH} {bx : List (Nat × Blk)} {o : Nat} {sh : Value} {ss : List Int} {a' : Option Addr} {c' : Nat} {l : List Int} (h : Gro H0 bx o sh ss a' c' l H) : Gro H0 bx o sh ss a' c' l (H ++ L) :=
  ⟨fun x hx => ⟨gtl (h.bs x hx).1, (h.bs x hx).2⟩, gtl h.out, h.osh.mono, h.od.mono, h.nd, h.ns, h.n0, app_ext h.ext⟩
/-- Numbers are put behind, and the box is written anew. -/
theorem Gro.push {H0 H H2 : AH} {bx : List (Nat × Blk)} {o : Nat} {sh : Value} {ss : List Int} {a' a2 : Option Addr} {c' c2 : Nat} {l m : List Int} (h : Gro H0 bx o sh ss a' c' l H)
    (ho : OwnRow H2 (.slice a2 (l.length + m.length) c2) (l ++ m)) (ha : App H (.slice a' l.length c') H2 (.slice a2 (l.length + m.length) c2)) :
    H2[o]? = some ⟨[sh, .slice a' l.length c'], .own⟩ ∧ (∀ x ∈ bx, H2[x.1]? = some x.2) ∧ Gro H0 bx o sh ss a2 c2 (l ++ m) (H2.set o ⟨[sh, .slice a2 (l.length + m.length) c2], .own⟩) := by
  have hne : ∀ b, b ≤ o → blkOf (.slice a' l.length c') ≠ some b := fun b hb e => by have := h.nd b e; omega
  have hol := (List.getElem?_eq_some_iff.1 h.out).1
  have k1 : H2[o]? = _ := (ha.keep o hol (hne o (Nat.le_refl _))).trans h.out
  have k2 : ∀ x ∈ bx, H2[x.1]? = some x.2 := fun x hx => by
    have := h.bs x hx
    rw [ha.keep x.1 (by omega) (hne _ (by omega)), this.1]
  have hn2 : ∀ b, blkOf (.slice a2 (l.length + m.length) c2) = some b → o < b := fun b hb => (ha.new b hb).elim (h.nd b) fun h => by omega
  refine ⟨k1, k2, ⟨fun x hx => ⟨?_, (h.bs x hx).2⟩, ?_, ?_, ?_, ?_, h.ns, h.n0, ?_⟩⟩
  · rw [List.getElem?_set_ne (by have := (h.bs x hx).2; omega)]
    exact k2 x hx
  · rw [List.length_append]; exact set_at k1
  · refine (ha.own h.osh fun b hb => hne b (by have := h.ns b hb; omega)).set fun e => ?_
    have := h.ns _ e; omega
  · rw [List.length_append]
    exact ho.set fun e => by have := hn2 _ e; omega
  · rw [List.length_append]; exact hn2
  · exact set_ext (ha.ext h.ext fun b hb => by have := h.nd b hb; have := h.n0; omega) h.n0
theorem Gro.aown {H0 H : AH} {bx : List (Nat × Blk)} {o : Nat} {sh : Value} {ss : List Int} {a' : Option Addr} {c' : Nat} {l : List Int} (h : Gro H0 bx o sh ss a' c' l H) {b : Nat} {k : Blk} (hb : b < o) (hs : blkOf sh ≠ some b) (h0 : H0.length ≤ b) :
    AOwn H0 (H.set b k) (.agg #[sh, .slice a' l.length c']) ss l sh (.slice a' l.length c') ∧ ∃ K, H.set b k = H0 ++ K := by
  refine ⟨⟨rfl, h.osh.set hs, h.od.set fun e => ?_, fun g h1 h2 => ?_, fun g hg => (h.ns g hg).1, fun g hg => ?_⟩, set_ext h.ext h0⟩
  · have := h.nd _ e; omega
  · have := h.nd _ h2; have := h.ns _ h1; omega
  · have := h.nd _ hg; have := h.n0; omega
/-- Bytes that may be read. -/
def BRow (H : AH) (a : Option Addr) (n c : Nat) : Prop := 0 < n → ∃ b o cs, a = some ⟨b, o, none⟩ ∧ c = 1 ∧ H[b]? = some ⟨cs, .ro⟩ ∧ ∀ j, j < n → ∃ v : Int, cs[o + j]? = some (.int .u8 v) ∧ 0 ≤ v ∧ v ≤ 255
/-- A cursor. -/
def Cur (H : AH) (cb : Nat) : Prop := ∃ (a : Option Addr) (n c i : Nat) (h : Int), H[cb]? = some ⟨[.slice a n c, .int .i64 i, .int .i64 h], .own⟩ ∧ i ≤ n ∧ n ≤ 1048576 ∧ BRow H a n c
structure Frm (cb : Nat) (H H' : AH) : Prop where
  len : H.length ≤ H'.length
  keep : ∀ b, b < H.length → b ≠ cb → H'[b]? = H[b]?
  cur : Cur H' cb
theorem BRow.keep {H H' : AH} {a : Option Addr} {n c cb : Nat} (h : BRow H a n c) (hk : ∀ b, b < H.length → b ≠ cb → H'[b]? = H[b]?) (hc : ∀ cs, H[cb]? ≠ some ⟨cs, .ro⟩) : BRow H' a n c := by
  intro hn
  obtain ⟨b, o, cs, h1, h2, h3, h4⟩ := h hn
  refine ⟨b, o, cs, h1, h2, ?_, h4⟩
  rw [hk b (List.getElem?_eq_some_iff.1 h3).1 (by rintro rfl; exact hc cs h3)]
  exact h3
theorem Cur.lt {H : AH} {cb : Nat} (h : Cur H cb) : cb < H.length := by
  obtain ⟨a, n, c, i, h, h1, _⟩ := h
  exact (List.getElem?_eq_some_iff.1 h1).1
theorem Cur.mono {H L : AH} {cb : Nat} (h : Cur H cb) : Cur (H ++ L) cb := by
  obtain ⟨a, n, c, i, x, h1, h2, h3, h4⟩ := h
  refine ⟨a, n, c, i, x, gtl h1, h2, h3, fun hn => ?_⟩
  obtain ⟨b, o, cs, g1, g2, g3, g4⟩ := h4 hn
  exact ⟨b, o, cs, g1, g2, gtl g3, g4⟩
theorem Frm.refl {H : AH} {cb : Nat} (h : Cur H cb) : Frm cb H H := ⟨Nat.le_refl _, fun _ _ _ => rfl, h⟩
theorem Frm.trans {cb : Nat} {H H1 H2 : AH} (h : Frm cb H H1) (h' : Frm cb H1 H2) : Frm cb H H2 :=
  ⟨Nat.le_trans h.len h'.len, fun b hb hn => by rw [h'.keep b (Nat.lt_of_lt_of_le hb h.len) hn, h.keep b hb hn], h'.cur⟩
theorem Frm.app {cb : Nat} {H H1 L : AH} (h : Frm cb H H1) : Frm cb H (H1 ++ L) :=
  ⟨by have := h.len; simp; omega, fun b hb hn => by rw [List.getElem?_append_left (Nat.lt_of_lt_of_le hb h.len), h.keep b hb hn], h.cur.mono⟩
theorem Frm.own {cb : Nat} {H H1 : AH} {v : Value} {l : List Int} (h : Frm cb H H1) (ho : OwnRow H v l) (hn : blkOf v ≠ some cb) : OwnRow H1 v l :=
  ho.same fun b hb => h.keep b (ho.lt b hb) (by rintro rfl; exact hn hb)
theorem Frm.at {cb : Nat} {H H1 : AH} {b : Nat} {k : Blk} (h : Frm cb H H1) (hb : H[b]? = some k) (hn : b ≠ cb) : H1[b]? = some k := by
  rw [h.keep b (List.getElem?_eq_some_iff.1 hb).1 hn, hb]
theorem Cur.set {H : AH} {cb b : Nat} {k : Blk} (h : Cur H cb) (hb : ∀ cs, H[b]? ≠ some ⟨cs, .ro⟩) (hn : b ≠ cb) : Cur (H.set b k) cb := by
  obtain ⟨a, n, c, i, x, h1, h2, h3, h4⟩ := h
  refine ⟨a, n, c, i, x, by rw [List.getElem?_set_ne hn]; exact h1, h2, h3, fun hn0 => ?_⟩
  obtain ⟨b', o, cs, g1, g2, g3, g4⟩ := h4 hn0
  refine ⟨b', o, cs, g1, g2, ?_, g4⟩
  rw [List.getElem?_set_ne (by rintro rfl; exact hb cs g3)]
  exact g3
/-- A block behind the heap is written. -/
theorem Frm.set {cb b : Nat} {H H1 : AH} {k : Blk} {cs : List Value} (h : Frm cb H H1) (hb : H1[b]? = some ⟨cs, .own⟩) (hl : H.length ≤ b) (hn : b ≠ cb) : Frm cb H (H1.set b k) :=
  ⟨by rw [List.length_set]; exact h.len, fun g hg hgn => by rw [List.getElem?_set_ne (by omega)]; exact h.keep g hg hgn, h.cur.set (fun cs' e => by rw [hb] at e; cases e) hn⟩

set_option maxHeartbeats 4000000 in
theorem l1Byte_ok {H : AH} {cb : Nat} (hc : Cur H cb) : CallsA Try.prog 74 #[.pointer (some ⟨cb, 0, none⟩)] H fun r H' => (∃ v : Int, r = .int .i64 v ∧ 0 ≤ v ∧ v ≤ 255) ∧ Frm cb H H' := by
  obtain ⟨a, n, c, i, h, h1, hi, hn, hr⟩ := hc
  have m255 : (255 : Int) = ((255 : Nat) : Int) := rfl
  refine w74 ?_
  unfold k74
  have sh1 := @bin_shr Try.prog
  have hs : ∀ k : Int, Cur (H.set cb ⟨[.slice a n c, .int .i64 i, .int .i64 k], .own⟩) cb := fun k => ⟨a, n, c, i, k, set_at h1, hi, hn, hr.keep (cb := cb) (fun b hb hne => List.getElem?_set_ne (Ne.symm hne)) (fun cs e => by rw [h1] at e; cases e)⟩
  have q1 := fun k : Int => rd_own (set_at (k' := ⟨[.slice a n c, .int .i64 i, .int .i64 k], .own⟩) h1)
  have q2 := fun k : Int => wrt_own (set_at (k' := ⟨[.slice a n c, .int .i64 i, .int .i64 k], .own⟩) h1)
  simp -implicitDefEqProofs only [kz, kk0, kk1, kk2, kk3, ↓two_true, ↓two_false, oS_some, oM_some, mkv, aggAt, Nat.reduceLeDiff, Nat.reduceSub, Nat.reduceMul, implies_true, Nat.reduceEqDiff, reduceIte, Nat.reduceAdd, Nat.reduceBEq, reduceCtorEq, cv5_3, fa85_0, fa85_1, fa85_2, ix22, ld3, ld5, ld22, ln22, st3, rd_own h1, wrt_own h1, q1, q2, bin_shr (show ¬ (33 : Int) < 0 by decide), bin_shr (show ¬ (45 : Int) < 0 by decide)]
  generalize IntKind.i64.wrap (IntKind.i64.wrap (h * 6364136223846793005) + 1442695040888963407) = h'
  have hfr : ∀ (i' : Nat) (k : Int), i' ≤ n → Frm cb H (H.set cb ⟨[.slice a n c, .int .i64 i', .int .i64 k], .own⟩) := fun i' k hi' =>
    ⟨by simp, fun b hb hne => List.getElem?_set_ne (Ne.symm hne), ⟨a, n, c, i', k, set_at h1, hi', hn, hr.keep (cb := cb) (fun b hb hne => List.getElem?_set_ne (Ne.symm hne)) (fun cs e => by rw [h1] at e; cases e)⟩⟩
  refine two_intro (fun hlt => ?_) (fun hlt => ?_)
  · have hlt' : i < n := by simpa using hlt
    obtain ⟨b, o, cs, rfl, rfl, hb, hcell⟩ := hr (by omega)
    obtain ⟨v, hv, v0, v1⟩ := hcell i hlt'
    have hbc : b ≠ cb := by rintro rfl; rw [h1] at hb; cases hb
    have hrb : rd (H.set cb ⟨[.slice (some ⟨b, o, none⟩) n 1, .int .i64 i, .int .i64 h'], .own⟩) b = some cs := by
      unfold rd; rw [List.getElem?_set_ne (Ne.symm hbc), hb]; rfl
    simp -implicitDefEqProofs only [kz, kk0, kk1, kk2, kk3, ↓two_true, ↓two_false, oS_some, oM_some, mkv, aggAt, Nat.reduceLeDiff, Nat.reduceSub, Nat.reduceMul, implies_true, Nat.reduceEqDiff, reduceIte, Nat.reduceAdd, Nat.reduceBEq, reduceCtorEq, cv5_3, fa85_0, fa85_1, fa85_2, ix22, ld3, ld5, ld22, ln22, st3, Int.toNat_natCast, Nat.mul_one, hrb, hv, q1, q2, IntWalk.i64_in (↑i + 1) (by omega)]
    have hand := fun x : Int => and_le (a := x) (m := 255) (by decide)
    refine ⟨⟨by omega, by omega⟩, ⟨_, rfl, hand _⟩, ?_⟩
    rw [list_set_set]
    exact hfr (i + 1) h' hlt'
  · have hand := fun x : Int => and_le (a := x) (m := 255) (by decide)
    exact ⟨⟨_, rfl, hand _⟩, hfr i h' hi⟩

theorem tmod_rng {a n : Int} (ha : 0 ≤ a) (hn : 0 < n) : 0 ≤ a.tmod n ∧ a.tmod n < n := by
  rw [Int.tmod_eq_emod_of_nonneg ha]
  exact ⟨Int.emod_nonneg _ (by omega), Int.emod_lt_of_pos _ hn⟩

set_option maxHeartbeats 4000000 in
theorem l1Below_ok {H : AH} {cb : Nat} {n : Int} (hc : Cur H cb) : CallsA Try.prog 47 #[.pointer (some ⟨cb, 0, none⟩), .int .i64 n] H fun r H' => (∃ v : Int, r = .int .i64 v ∧ (n ≤ 0 → v = 0) ∧ (0 < n → 0 ≤ v ∧ v < n)) ∧ Frm cb H H' := by
  refine w47 ?_
  unfold k47
  simp -implicitDefEqProofs only [kz, kk0, kk1, kk2, kk3, ↓two_true, ↓two_false, oS_some, oM_some, mkv, aggAt, Nat.reduceLeDiff, Nat.reduceSub, Nat.reduceMul, implies_true, Nat.reduceEqDiff, reduceIte, Nat.reduceAdd, Nat.reduceBEq, reduceCtorEq]
  refine two_intro (fun h => ?_) (fun h => ?_)
  · have h' : n ≤ 0 := by simpa using h
    exact ⟨⟨0, rfl, fun _ => rfl, fun h => by omega⟩, Frm.refl hc⟩
  · have hn0 : n ≠ 0 := by simp at h; omega
    have hp : 0 < n := by simp at h; omega
    refine two_intro (fun h2 => ?_) (fun h2 => ?_)
    · refine (l1Byte_ok hc).mono ?_
      rintro _ H1 ⟨⟨v, rfl, v0, v1⟩, hf⟩
      simp -implicitDefEqProofs only [kz, kk0, kk1, kk2, kk3, ↓two_true, ↓two_false, oS_some, oM_some, mkv, aggAt, Nat.reduceLeDiff, Nat.reduceSub, Nat.reduceMul, implies_true, Nat.reduceEqDiff, reduceIte, Nat.reduceAdd, Nat.reduceBEq, reduceCtorEq, bin_rem hn0]
      exact ⟨⟨_, rfl, fun h => by omega, fun _ => tmod_rng v0 hp⟩, hf⟩
    · refine (l1Byte_ok hc).mono ?_
      rintro _ H1 ⟨⟨v, rfl, v0, v1⟩, hf1⟩
      simp -implicitDefEqProofs only [kz, kk0, kk1, kk2, kk3, ↓two_true, ↓two_false, oS_some, oM_some, mkv, aggAt, Nat.reduceLeDiff, Nat.reduceSub, Nat.reduceMul, implies_true, Nat.reduceEqDiff, reduceIte, Nat.reduceAdd, Nat.reduceBEq, reduceCtorEq]
      refine (l1Byte_ok hf1.cur).mono ?_
      rintro _ H2 ⟨⟨w, rfl, w0, w1⟩, hf2⟩
      simp -implicitDefEqProofs only [kz, kk0, kk1, kk2, kk3, ↓two_true, ↓two_false, oS_some, oM_some, mkv, aggAt, Nat.reduceLeDiff, Nat.reduceSub, Nat.reduceMul, implies_true, Nat.reduceEqDiff, reduceIte, Nat.reduceAdd, Nat.reduceBEq, reduceCtorEq]
      refine (l1Byte_ok hf2.cur).mono ?_
      rintro _ H3 ⟨⟨x, rfl, x0, x1⟩, hf3⟩
      simp -implicitDefEqProofs only [kz, kk0, kk1, kk2, kk3, ↓two_true, ↓two_false, oS_some, oM_some, mkv, aggAt, Nat.reduceLeDiff, Nat.reduceSub, Nat.reduceMul, implies_true, Nat.reduceEqDiff, reduceIte, Nat.reduceAdd, Nat.reduceBEq, reduceCtorEq]
      refine (l1Byte_ok hf3.cur).mono ?_
      rintro _ H4 ⟨⟨y, rfl, y0, y1⟩, hf4⟩
      have z1 : IntKind.i64.wrap (v * 16777216) = v * 16777216 := IntWalk.i64_in _ (by omega)
      have z2 : IntKind.i64.wrap (w * 65536) = w * 65536 := IntWalk.i64_in _ (by omega)
      have z3 : IntKind.i64.wrap (v * 16777216 + w * 65536) = v * 16777216 + w * 65536 := IntWalk.i64_in _ (by omega)
      have z4 : IntKind.i64.wrap (x * 256) = x * 256 := IntWalk.i64_in _ (by omega)
      have z5 : IntKind.i64.wrap (v * 16777216 + w * 65536 + x * 256) = v * 16777216 + w * 65536 + x * 256 := IntWalk.i64_in _ (by omega)
      have z6 : IntKind.i64.wrap (v * 16777216 + w * 65536 + x * 256 + y) = v * 16777216 + w * 65536 + x * 256 + y := IntWalk.i64_in _ (by omega)
      simp -implicitDefEqProofs only [kz, kk0, kk1, kk2, kk3, ↓two_true, ↓two_false, oS_some, oM_some, mkv, aggAt, Nat.reduceLeDiff, Nat.reduceSub, Nat.reduceMul, implies_true, Nat.reduceEqDiff, reduceIte, Nat.reduceAdd, Nat.reduceBEq, reduceCtorEq, bin_rem hn0, z1, z2, z3, z4, z5, z6]
      exact ⟨⟨_, rfl, fun h => by omega, fun _ => tmod_rng (by omega) hp⟩, ((hf1.trans hf2).trans hf3).trans hf4⟩

set_option maxHeartbeats 4000000 in
theorem l1Once_ok {H : AH} {cb : Nat} {n : Int} (hc : Cur H cb) : CallsA Try.prog 52 #[.pointer (some ⟨cb, 0, none⟩), .int .i64 n] H fun r H' => (∃ v : Bool, r = .bool v) ∧ Frm cb H H' := by
  refine w52 ?_
  unfold k52
  simp -implicitDefEqProofs only [kz, kk0, kk1, kk2, kk3, ↓two_true, ↓two_false, oS_some, oM_some, mkv, aggAt, Nat.reduceLeDiff, Nat.reduceSub, Nat.reduceMul, implies_true, Nat.reduceEqDiff, reduceIte, Nat.reduceAdd, Nat.reduceBEq, reduceCtorEq]
  refine (l1Below_ok hc).mono ?_
  rintro _ H1 ⟨⟨v, rfl, _⟩, hf⟩
  simp -implicitDefEqProofs only [kz, kk0, kk1, kk2, kk3, ↓two_true, ↓two_false, oS_some, oM_some, mkv, aggAt, Nat.reduceLeDiff, Nat.reduceSub, Nat.reduceMul, implies_true, Nat.reduceEqDiff, reduceIte, Nat.reduceAdd, Nat.reduceBEq, reduceCtorEq]
  exact ⟨⟨_, rfl⟩, hf⟩

set_option maxHeartbeats 4000000 in
theorem l1PickInt_ok {H : AH} {cb : Nat} {v : Value} {l : List Int} (hc : Cur H cb) (hv : OwnRow H v l) (hn : blkOf v ≠ some cb) (hl : 0 < l.length) : CallsA Try.prog 46 #[.pointer (some ⟨cb, 0, none⟩), v] H fun r H' => (∃ x : Int, r = .int .i64 x ∧ x ∈ l) ∧ Frm cb H H' := by
  obtain ⟨b, o, cs, rfl, hb, hle, hcs⟩ := hv.blk hl
  have hbc : b ≠ cb := fun e => hn (by rw [e]; rfl)
  refine w46 ?_
  unfold k46
  simp -implicitDefEqProofs only [kz, kk0, kk1, kk2, kk3, ↓two_true, ↓two_false, oS_some, oM_some, mkv, aggAt, Nat.reduceLeDiff, Nat.reduceSub, Nat.reduceMul, implies_true, Nat.reduceEqDiff, reduceIte, Nat.reduceAdd, Nat.reduceBEq, reduceCtorEq, ix24, ld3, ln24]
  refine (l1Below_ok hc).mono ?_
  rintro _ H1 ⟨⟨v, rfl, _, h2⟩, hf⟩
  obtain ⟨v0, v1⟩ := h2 (by omega)
  have hb1 := hf.at hb hbc
  obtain ⟨j, rfl⟩ : ∃ j : Nat, v = j := ⟨v.toNat, by omega⟩
  have hj : j < l.length := by omega
  have hc1 := hcs j l[j] (List.getElem?_eq_getElem hj)
  simp -implicitDefEqProofs only [kz, kk0, kk1, kk2, kk3, ↓two_true, ↓two_false, oS_some, oM_some, mkv, aggAt, Nat.reduceLeDiff, Nat.reduceSub, Nat.reduceMul, implies_true, Nat.reduceEqDiff, reduceIte, Nat.reduceAdd, Nat.reduceBEq, reduceCtorEq, ix24, ld3, ln24, Int.toNat_natCast, Nat.mul_one, rd_own hb1, hc1]
  exact ⟨⟨by omega, by omega⟩, ⟨_, rfl, List.getElem_mem hj⟩, hf⟩

/-- A row of its own, no older than a heap. -/
structure DR (H0 H : AH) (v : Value) (l : List Int) : Prop where
  own : OwnRow H v l
  fr : ∀ b, blkOf v = some b → H0.length ≤ b
theorem OwnRow.new {H : AH} {l : List Int} : OwnRow (H ++ [⟨ints l, .own⟩]) (.slice (some ⟨H.length, 0, none⟩) l.length 1) l :=
  .inr ⟨H.length, 0, ints l, rfl, by rw [gt0]; rfl, by simp [ints], List.take_of_length_le (by simp [ints])⟩
theorem DR.new {H0 H : AH} {l : List Int} (h : H0.length ≤ H.length) : DR H0 (H ++ [⟨ints l, .own⟩]) (.slice (some ⟨H.length, 0, none⟩) l.length 1) l :=
  ⟨OwnRow.new, fun b hb => by simp [blkOf] at hb; omega⟩
theorem DR.lit {H0 H : AH} {cs : List Value} {n : Nat} (l : List Int) (h : H0.length ≤ H.length) (he : cs = ints l) (hn : n = l.length) : DR H0 (H ++ [⟨cs, .own⟩]) (.slice (some ⟨H.length, 0, none⟩) n 1) l := by
  subst he; subst hn; exact DR.new h
theorem DR.back {H0 H1 H : AH} {v : Value} {l : List Int} (h : DR H1 H v l) (hl : H0.length ≤ H1.length) : DR H0 H v l := ⟨h.own, fun b hb => Nat.le_trans hl (h.fr b hb)⟩
theorem DR.mono {H0 H L : AH} {v : Value} {l : List Int} (h : DR H0 H v l) : DR H0 (H ++ L) v l := ⟨h.own.mono, h.fr⟩
theorem DR.frm {H0 H H' : AH} {cb : Nat} {v : Value} {l : List Int} (h : DR H0 H v l) (hf : Frm cb H H') (hc : cb < H0.length) : DR H0 H' v l :=
  ⟨hf.own h.own fun e => by have := h.fr _ e; omega, h.fr⟩
theorem DR.ne {H0 H : AH} {cb : Nat} {v : Value} {l : List Int} (h : DR H0 H v l) (hc : cb < H0.length) : blkOf v ≠ some cb := fun e => by have := h.fr _ e; omega
theorem Cur.same {H H' : AH} {cb : Nat} (h : Cur H cb) (h1 : H'[cb]? = H[cb]?) (h2 : ∀ (b : Nat) cs, H[b]? = some (⟨cs, .ro⟩ : Blk) → H'[b]? = some (⟨cs, .ro⟩ : Blk)) : Cur H' cb := by
  obtain ⟨a, n, c, i, x, g1, g2, g3, g4⟩ := h
  refine ⟨a, n, c, i, x, by rw [h1]; exact g1, g2, g3, fun hn => ?_⟩
  obtain ⟨b, o, cs, k1, k2, k3, k4⟩ := g4 hn
  exact ⟨b, o, cs, k1, k2, h2 b cs k3, k4⟩
theorem Frm.push {cb : Nat} {H0 H H' : AH} {v v' : Value} {l : List Int} (h : Frm cb H0 H) (ho : DR H0 H v l) (hc : cb < H0.length) (ha : App H v H' v') : Frm cb H0 H' := by
  refine ⟨Nat.le_trans h.len ha.len, fun b hb hn => ?_, h.cur.same (ha.keep _ h.cur.lt (ho.ne hc)) fun b cs hb => ?_⟩
  · rw [ha.keep b (Nat.lt_of_lt_of_le hb h.len) fun e => by have := ho.fr b e; omega, h.keep b hb hn]
  · rw [ha.keep b (List.getElem?_eq_some_iff.1 hb).1 fun e => ?_]
    · exact hb
    · rcases ho.own with ⟨rfl, _⟩ | ⟨b', o, cs', rfl, h2, _⟩
      · simp [blkOf] at e
      · simp [blkOf] at e; subst e; rw [hb] at h2; cases h2
theorem App.dr {H0 H H' : AH} {v v' : Value} {l m : List Int} (ha : App H v H' v') (ho : OwnRow H' v' m) (h : DR H0 H v l) (hl : H0.length ≤ H.length) : DR H0 H' v' m :=
  ⟨ho, fun b hb => (ha.new b hb).elim (h.fr b) fun h => Nat.le_trans hl h⟩
theorem App.row {H H' : AH} {v v' w : Value} {m : List Int} {H0 : AH} (h : App H v H' v') (hw : DR H0 H w m) (hd : ∀ b, blkOf w = some b → blkOf v ≠ some b) : DR H0 H' w m := ⟨h.own hw.own hd, hw.fr⟩

set_option maxHeartbeats 4000000 in
theorem l1DrawNum_ok {H : AH} {cb : Nat} (hc : Cur H cb) : CallsA Try.prog 77 #[.pointer (some ⟨cb, 0, none⟩)] H fun r H' => (∃ v : Int, r = .int .i64 v ∧ numOk v = true) ∧ Frm cb H H' := by
  refine w77 ?_
  unfold k77
  simp -implicitDefEqProofs only [kz, kk0, kk1, kk2, kk3, ↓two_true, ↓two_false, oS_some, oM_some, mkv, aggAt, Nat.reduceLeDiff, Nat.reduceSub, Nat.reduceMul, implies_true, Nat.reduceEqDiff, reduceIte, Nat.reduceAdd, Nat.reduceBEq, reduceCtorEq, bs24_7]
  refine (l1Once_ok hc).mono ?_
  rintro _ H1 ⟨⟨v, rfl⟩, hf⟩
  simp -implicitDefEqProofs only [kz, kk0, kk1, kk2, kk3, ↓two_true, ↓two_false, oS_some, oM_some, mkv, aggAt, Nat.reduceLeDiff, Nat.reduceSub, Nat.reduceMul, implies_true, Nat.reduceEqDiff, reduceIte, Nat.reduceAdd, Nat.reduceBEq, reduceCtorEq, bs24_7]
  refine two_intro (fun h => ?_) (fun h => ?_)
  · refine (l1PickInt_ok (l := [1000000000000, -1000000000000, 999999999999, 1000000, -1000000, 1000001, 999999999999]) hf.cur.mono OwnRow.new (by have := hf.cur.lt; simp [blkOf]; omega) (by decide)).mono ?_
    rintro _ H2 ⟨⟨x, rfl, hx⟩, hg⟩
    simp -implicitDefEqProofs only [kz, kk0, kk1, kk2, kk3, ↓two_true, ↓two_false, oS_some, oM_some, mkv, aggAt, Nat.reduceLeDiff, Nat.reduceSub, Nat.reduceMul, implies_true, Nat.reduceEqDiff, reduceIte, Nat.reduceAdd, Nat.reduceBEq, reduceCtorEq, bs24_7]
    exact ⟨⟨x, rfl, (show ∀ x ∈ [1000000000000, -1000000000000, 999999999999, 1000000, -1000000, 1000001, 999999999999], numOk x = true by decide) x hx⟩, hf.app.trans hg⟩
  · refine (l1Below_ok hf.cur).mono ?_
    rintro _ H2 ⟨⟨x, rfl, _, hx⟩, hg⟩
    have hx := hx (by decide)
    simp -implicitDefEqProofs only [kz, kk0, kk1, kk2, kk3, ↓two_true, ↓two_false, oS_some, oM_some, mkv, aggAt, Nat.reduceLeDiff, Nat.reduceSub, Nat.reduceMul, implies_true, Nat.reduceEqDiff, reduceIte, Nat.reduceAdd, Nat.reduceBEq, reduceCtorEq, bs24_7]
    rw [IntWalk.i64_in (x - 6) (by omega)]
    refine ⟨⟨x - 6, rfl, ?_⟩, hf.trans hg⟩
    simp [numOk, inB]; omega

set_option maxHeartbeats 4000000 in
theorem l1DrawRaw_ok {H : AH} {cb : Nat} (hc : Cur H cb) : CallsA Try.prog 63 #[.pointer (some ⟨cb, 0, none⟩)] H fun r H' => (∃ v : Int, r = .int .i64 v ∧ I64 v) ∧ Frm cb H H' := by
  refine w63 ?_
  unfold k63
  simp -implicitDefEqProofs only [kz, kk0, kk1, kk2, kk3, ↓two_true, ↓two_false, oS_some, oM_some, mkv, aggAt, Nat.reduceLeDiff, Nat.reduceSub, Nat.reduceMul, implies_true, Nat.reduceEqDiff, reduceIte, Nat.reduceAdd, Nat.reduceBEq, reduceCtorEq, bs24_4]
  refine (l1Once_ok hc).mono ?_
  rintro _ H1 ⟨⟨v, rfl⟩, hf⟩
  simp -implicitDefEqProofs only [kz, kk0, kk1, kk2, kk3, ↓two_true, ↓two_false, oS_some, oM_some, mkv, aggAt, Nat.reduceLeDiff, Nat.reduceSub, Nat.reduceMul, implies_true, Nat.reduceEqDiff, reduceIte, Nat.reduceAdd, Nat.reduceBEq, reduceCtorEq, bs24_4]
  refine two_intro (fun h => ?_) (fun h => ?_)
  · refine (l1PickInt_ok (l := [1000000000001, -1000000000001, 9223372036854775807, -9223372036854775808]) hf.cur.mono OwnRow.new (by have := hf.cur.lt; simp [blkOf]; omega) (by decide)).mono ?_
    rintro _ H2 ⟨⟨x, rfl, hx⟩, hg⟩
    simp -implicitDefEqProofs only [kz, kk0, kk1, kk2, kk3, ↓two_true, ↓two_false, oS_some, oM_some, mkv, aggAt, Nat.reduceLeDiff, Nat.reduceSub, Nat.reduceMul, implies_true, Nat.reduceEqDiff, reduceIte, Nat.reduceAdd, Nat.reduceBEq, reduceCtorEq, bs24_4]
    refine ⟨⟨x, rfl, ?_⟩, hf.app.trans hg⟩
    simp only [List.mem_cons, List.not_mem_nil, or_false] at hx
    unfold I64; omega
  · refine (l1DrawNum_ok hf.cur).mono ?_
    rintro _ H2 ⟨⟨x, rfl, hx⟩, hg⟩
    simp -implicitDefEqProofs only [kz, kk0, kk1, kk2, kk3, ↓two_true, ↓two_false, oS_some, oM_some, mkv, aggAt, Nat.reduceLeDiff, Nat.reduceSub, Nat.reduceMul, implies_true, Nat.reduceEqDiff, reduceIte, Nat.reduceAdd, Nat.reduceBEq, reduceCtorEq, bs24_4]
    refine ⟨⟨x, rfl, ?_⟩, hf.trans hg⟩
    simp [numOk, inB] at hx; unfold I64; omega

set_option maxHeartbeats 4000000 in
theorem l2DrawRight_ok {H : AH} {cb : Nat} (hc : Cur H cb) : CallsA Try.prog 101 #[.pointer (some ⟨cb, 0, none⟩)] H fun r H' => (∃ l, DR H H' r l ∧ l.length ≤ 3) ∧ Frm cb H H' := by
  refine w101 ?_
  unfold k101
  simp -implicitDefEqProofs only [kz, kk0, kk1, kk2, kk3, ↓two_true, ↓two_false, oS_some, oM_some, mkv, aggAt, Nat.reduceLeDiff, Nat.reduceSub, Nat.reduceMul, implies_true, Nat.reduceEqDiff, reduceIte, Nat.reduceAdd, Nat.reduceBEq, reduceCtorEq, bs24_0, bs24_1, bs24_2, bs24_3]
  refine (l1Below_ok hc).mono ?_
  rintro _ H1 ⟨⟨v, rfl, _⟩, hf⟩
  simp -implicitDefEqProofs only [kz, kk0, kk1, kk2, kk3, ↓two_true, ↓two_false, oS_some, oM_some, mkv, aggAt, Nat.reduceLeDiff, Nat.reduceSub, Nat.reduceMul, implies_true, Nat.reduceEqDiff, reduceIte, Nat.reduceAdd, Nat.reduceBEq, reduceCtorEq, bs24_0, bs24_1, bs24_2, bs24_3]
  refine two_intro (fun h => ?_) (fun h => ?_)
  · exact ⟨⟨[], DR.lit [] hf.len rfl rfl, by simp⟩, hf.app⟩
  refine two_intro (fun h1 => ?_) (fun h1 => ?_)
  · rw [h1, two_true]
    refine (l1Below_ok hf.cur).mono ?_
    rintro _ H2 ⟨⟨x, rfl, _⟩, hg⟩
    simp -implicitDefEqProofs only [kz, kk0, kk1, kk2, kk3, ↓two_true, ↓two_false, oS_some, oM_some, mkv, aggAt, Nat.reduceLeDiff, Nat.reduceSub, Nat.reduceMul, implies_true, Nat.reduceEqDiff, reduceIte, Nat.reduceAdd, Nat.reduceBEq, reduceCtorEq, bs24_0, bs24_1, bs24_2, bs24_3]
    exact ⟨⟨[x], DR.lit [x] (hf.trans hg).len rfl rfl, by simp⟩, (hf.trans hg).app⟩
  · refine two_intro (fun h2 => ?_) (fun h2 => ?_)
    · refine (l1Below_ok hf.cur).mono ?_
      rintro _ H2 ⟨⟨x, rfl, _⟩, hg⟩
      simp -implicitDefEqProofs only [kz, kk0, kk1, kk2, kk3, ↓two_true, ↓two_false, oS_some, oM_some, mkv, aggAt, Nat.reduceLeDiff, Nat.reduceSub, Nat.reduceMul, implies_true, Nat.reduceEqDiff, reduceIte, Nat.reduceAdd, Nat.reduceBEq, reduceCtorEq, bs24_0, bs24_1, bs24_2, bs24_3]
      exact ⟨⟨[x], DR.lit [x] (hf.trans hg).len rfl rfl, by simp⟩, (hf.trans hg).app⟩
    · refine two_intro (fun h3 => ?_) (fun h3 => ?_)
      · refine (l1Below_ok hf.cur).mono ?_
        rintro _ H2 ⟨⟨x, rfl, _⟩, hg⟩
        simp -implicitDefEqProofs only [kz, kk0, kk1, kk2, kk3, ↓two_true, ↓two_false, oS_some, oM_some, mkv, aggAt, Nat.reduceLeDiff, Nat.reduceSub, Nat.reduceMul, implies_true, Nat.reduceEqDiff, reduceIte, Nat.reduceAdd, Nat.reduceBEq, reduceCtorEq, bs24_0, bs24_1, bs24_2, bs24_3]
        have hf := hf.trans hg
        refine (l1Below_ok hf.cur).mono ?_
        rintro _ H3 ⟨⟨y, rfl, _⟩, hg⟩
        simp -implicitDefEqProofs only [kz, kk0, kk1, kk2, kk3, ↓two_true, ↓two_false, oS_some, oM_some, mkv, aggAt, Nat.reduceLeDiff, Nat.reduceSub, Nat.reduceMul, implies_true, Nat.reduceEqDiff, reduceIte, Nat.reduceAdd, Nat.reduceBEq, reduceCtorEq, bs24_0, bs24_1, bs24_2, bs24_3]
        exact ⟨⟨[_, _], DR.lit [_, _] (hf.trans hg).len rfl rfl, by simp⟩, (hf.trans hg).app⟩
      · refine (l1Below_ok hf.cur).mono ?_
        rintro _ H2 ⟨⟨x, rfl, _⟩, hg⟩
        simp -implicitDefEqProofs only [kz, kk0, kk1, kk2, kk3, ↓two_true, ↓two_false, oS_some, oM_some, mkv, aggAt, Nat.reduceLeDiff, Nat.reduceSub, Nat.reduceMul, implies_true, Nat.reduceEqDiff, reduceIte, Nat.reduceAdd, Nat.reduceBEq, reduceCtorEq, bs24_0, bs24_1, bs24_2, bs24_3]
        have hf := hf.trans hg
        refine (l1Below_ok hf.cur).mono ?_
        rintro _ H3 ⟨⟨y, rfl, _⟩, hg⟩
        simp -implicitDefEqProofs only [kz, kk0, kk1, kk2, kk3, ↓two_true, ↓two_false, oS_some, oM_some, mkv, aggAt, Nat.reduceLeDiff, Nat.reduceSub, Nat.reduceMul, implies_true, Nat.reduceEqDiff, reduceIte, Nat.reduceAdd, Nat.reduceBEq, reduceCtorEq, bs24_0, bs24_1, bs24_2, bs24_3]
        have hf := hf.trans hg
        refine (l1Below_ok hf.cur).mono ?_
        rintro _ H4 ⟨⟨z, rfl, _⟩, hg⟩
        simp -implicitDefEqProofs only [kz, kk0, kk1, kk2, kk3, ↓two_true, ↓two_false, oS_some, oM_some, mkv, aggAt, Nat.reduceLeDiff, Nat.reduceSub, Nat.reduceMul, implies_true, Nat.reduceEqDiff, reduceIte, Nat.reduceAdd, Nat.reduceBEq, reduceCtorEq, bs24_0, bs24_1, bs24_2, bs24_3]
        exact ⟨⟨[_, _, _], DR.lit [_, _, _] (hf.trans hg).len rfl rfl, by simp⟩, (hf.trans hg).app⟩

set_option maxHeartbeats 4000000 in
theorem l2Draw_ok {H : AH} {cb : Nat} (hc : Cur H cb) : CallsA Try.prog 62 #[.pointer (some ⟨cb, 0, none⟩)] H fun r H' => (∃ l, DR H H' r l ∧ l.length ≤ 4) ∧ Frm cb H H' := by
  have hlt := hc.lt
  refine w62 ?_
  unfold k62
  simp -implicitDefEqProofs only [kz, kk0, kk1, kk2, kk3, ↓two_true, ↓two_false, oS_some, oM_some, mkv, aggAt, Nat.reduceLeDiff, Nat.reduceSub, Nat.reduceMul, implies_true, Nat.reduceEqDiff, reduceIte, Nat.reduceAdd, Nat.reduceBEq, reduceCtorEq, ap24_24, bs24_1, bs24_2, bs24_4]
  refine (l2DrawRight_ok hc).mono ?_
  rintro _ H1 ⟨⟨l, hl, hn⟩, hf⟩
  obtain ⟨a, c, rfl⟩ := hl.own.isSlice
  simp -implicitDefEqProofs only [kz, kk0, kk1, kk2, kk3, ↓two_true, ↓two_false, oS_some, oM_some, mkv, aggAt, Nat.reduceLeDiff, Nat.reduceSub, Nat.reduceMul, implies_true, Nat.reduceEqDiff, reduceIte, Nat.reduceAdd, Nat.reduceBEq, reduceCtorEq, ap24_24, bs24_1, bs24_2, bs24_4]
  refine (l1Below_ok hf.cur).mono ?_
  rintro _ H2 ⟨⟨v, rfl, _⟩, hg⟩
  have hl := hl.frm hg hlt
  have hf := hf.trans hg
  simp -implicitDefEqProofs only [kz, kk0, kk1, kk2, kk3, ↓two_true, ↓two_false, oS_some, oM_some, mkv, aggAt, Nat.reduceLeDiff, Nat.reduceSub, Nat.reduceMul, implies_true, Nat.reduceEqDiff, reduceIte, Nat.reduceAdd, Nat.reduceBEq, reduceCtorEq, ap24_24, bs24_1, bs24_2, bs24_4]
  have hcb := fun (H3 : AH) (h : Frm cb H H3) (n : Nat) => show blkOf (.slice (some ⟨H3.length, 0, none⟩) n 1) ≠ some cb by have := h.len; simp [blkOf]; omega
  refine two_intro (fun h => ?_) (fun h => two_intro (fun h => ?_) (fun h => two_intro (fun h => ?_) (fun h => ?_)))
  · refine (l1PickInt_ok (l := [-1, 0, 300, 301]) hf.cur.mono OwnRow.new (hcb _ hf _) (by decide)).mono ?_
    rintro _ H3 ⟨⟨x, rfl, _⟩, hg⟩
    have hl := hl.mono.frm hg hlt
    have hf := hf.app.trans hg
    simp -implicitDefEqProofs only [kz, kk0, kk1, kk2, kk3, ↓two_true, ↓two_false, oS_some, oM_some, mkv, aggAt, Nat.reduceLeDiff, Nat.reduceSub, Nat.reduceMul, implies_true, Nat.reduceEqDiff, reduceIte, Nat.reduceAdd, Nat.reduceBEq, reduceCtorEq, ap24_24, bs24_1, bs24_2, bs24_4]
    refine oA_own hl.own.mono intRow1 (by simp; omega) fun a2 c2 H4 o2 x2 => ?_
    simp -implicitDefEqProofs only [kz, kk0, kk1, kk2, kk3, ↓two_true, ↓two_false, oS_some, oM_some, mkv, aggAt, Nat.reduceLeDiff, Nat.reduceSub, Nat.reduceMul, implies_true, Nat.reduceEqDiff, reduceIte, Nat.reduceAdd, Nat.reduceBEq, reduceCtorEq, ap24_24, bs24_1, bs24_2, bs24_4]
    refine ⟨⟨_, x2.dr o2 hl.mono (by have := hf.len; simp; omega), by simp; omega⟩, hf.app.push hl.mono hlt x2⟩
  · exact ⟨⟨[_, _, _, _], DR.lit [_, _, _, _] hf.len rfl rfl, by simp⟩, hf.app⟩
  · refine (l1PickInt_ok (l := [17, 20, 15, 300]) hf.cur.mono OwnRow.new (hcb _ hf _) (by decide)).mono ?_
    rintro _ H3 ⟨⟨x, rfl, _⟩, hg⟩
    have hf := hf.app.trans hg
    simp -implicitDefEqProofs only [kz, kk0, kk1, kk2, kk3, ↓two_true, ↓two_false, oS_some, oM_some, mkv, aggAt, Nat.reduceLeDiff, Nat.reduceSub, Nat.reduceMul, implies_true, Nat.reduceEqDiff, reduceIte, Nat.reduceAdd, Nat.reduceBEq, reduceCtorEq, ap24_24, bs24_1, bs24_2, bs24_4]
    refine (l1PickInt_ok (l := [15, 20, 16, 0]) hf.cur.mono OwnRow.new (hcb _ hf _) (by decide)).mono ?_
    rintro _ H4 ⟨⟨y, rfl, _⟩, hg⟩
    have hf := hf.app.trans hg
    simp -implicitDefEqProofs only [kz, kk0, kk1, kk2, kk3, ↓two_true, ↓two_false, oS_some, oM_some, mkv, aggAt, Nat.reduceLeDiff, Nat.reduceSub, Nat.reduceMul, implies_true, Nat.reduceEqDiff, reduceIte, Nat.reduceAdd, Nat.reduceBEq, reduceCtorEq, ap24_24, bs24_1, bs24_2, bs24_4]
    exact ⟨⟨[_, _], DR.lit [_, _] hf.len rfl rfl, by simp⟩, hf.app⟩
  · exact ⟨⟨l, hl, by omega⟩, hf⟩

/-- An array of its own that was drawn. -/
structure DA (H0 H : AH) (p q : Value) (sh dt : List Int) : Prop where
  sh : DR H0 H p sh
  dt : DR H0 H q dt
  dj : Dj p q
theorem DA.frm {H0 H H' : AH} {cb : Nat} {p q : Value} {sh dt : List Int} (h : DA H0 H p q sh dt) (hf : Frm cb H H') (hc : cb < H0.length) : DA H0 H' p q sh dt := ⟨h.sh.frm hf hc, h.dt.frm hf hc, h.dj⟩
theorem DA.mono {H0 H L : AH} {p q : Value} {sh dt : List Int} (h : DA H0 H p q sh dt) : DA H0 (H ++ L) p q sh dt := ⟨h.sh.mono, h.dt.mono, h.dj⟩
theorem DA.back {H0 H1 H : AH} {p q : Value} {sh dt : List Int} (h : DA H1 H p q sh dt) (hl : H0.length ≤ H1.length) : DA H0 H p q sh dt := ⟨h.sh.back hl, h.dt.back hl, h.dj⟩
/-- An array that grows in a box, while there are draws. -/
structure GroF (cb : Nat) (H0 : AH) (bx : List (Nat × Blk)) (o : Nat) (sh : Value) (ss : List Int) (a' : Option Addr) (c' : Nat) (l : List Int) (H : AH) : Prop where
  bs : ∀ x ∈ bx, H[x.1]? = some x.2 ∧ x.1 < o ∧ x.1 ≠ cb
  out : H[o]? = some ⟨[sh, .slice a' l.length c'], .own⟩
  osh : DR H0 H sh ss
  od : DR H0 H (.slice a' l.length c') l
  nd : ∀ b, blkOf (.slice a' l.length c') = some b → o < b
  ns : ∀ b, blkOf sh = some b → b < o ∧ ∀ x ∈ bx, x.1 ≠ b
  n0 : H0.length ≤ o
  nc : cb < H0.length
  ext : Frm cb H0 H
theorem GroF.mono {cb : Nat} {H0 H L : AH} {bx : List (Nat × Blk)} {o : Nat} {sh : Value} {ss : List Int} {a' : Option Addr} {c' : Nat} {l : List Int} (h : GroF cb H0 bx o sh ss a' c' l H) : GroF cb H0 bx o sh ss a' c' l (H ++ L) :=
  ⟨fun x hx => ⟨gtl (h.bs x hx).1, (h.bs x hx).2⟩, gtl h.out, h.osh.mono, h.od.mono, h.nd, h.ns, h.n0, h.nc, h.ext.app⟩
theorem GroF.frm {cb : Nat} {H0 H H' : AH} {bx : List (Nat × Blk)} {o : Nat} {sh : Value} {ss : List Int} {a' : Option Addr} {c' : Nat} {l : List Int} (h : GroF cb H0 bx o sh ss a' c' l H) (hf : Frm cb H H') : GroF cb H0 bx o sh ss a' c' l H' :=
  ⟨fun x hx => ⟨hf.at (h.bs x hx).1 (h.bs x hx).2.2, (h.bs x hx).2⟩, hf.at h.out (by have := h.n0; have := h.nc; omega), h.osh.frm hf h.nc, h.od.frm hf h.nc, h.nd, h.ns, h.n0, h.nc, h.ext.trans hf⟩
/-- Numbers are put behind, and the box is written anew. -/
theorem GroF.push {cb : Nat} {H0 H H2 : AH} {bx : List (Nat × Blk)} {o : Nat} {sh : Value} {ss : List Int} {a' a2 : Option Addr} {c' c2 : Nat} {l m : List Int} (h : GroF cb H0 bx o sh ss a' c' l H)
    (ho : OwnRow H2 (.slice a2 (l.length + m.length) c2) (l ++ m)) (ha : App H (.slice a' l.length c') H2 (.slice a2 (l.length + m.length) c2)) :
    H2[o]? = some ⟨[sh, .slice a' l.length c'], .own⟩ ∧ (∀ x ∈ bx, H2[x.1]? = some x.2) ∧ GroF cb H0 bx o sh ss a2 c2 (l ++ m) (H2.set o ⟨[sh, .slice a2 (l.length + m.length) c2], .own⟩) := by
  have hne : ∀ b, b ≤ o → blkOf (.slice a' l.length c') ≠ some b := fun b hb e => by have := h.nd b e; omega
  have hol := (List.getElem?_eq_some_iff.1 h.out).1
  have hn0 := h.n0
  have hnc := h.nc
  have k1 : H2[o]? = _ := (ha.keep o hol (hne o (Nat.le_refl _))).trans h.out
  have k2 : ∀ x ∈ bx, H2[x.1]? = some x.2 := fun x hx => by
    have := h.bs x hx
    rw [ha.keep x.1 (by omega) (hne _ (by omega)), this.1]
  have hn2 : ∀ b, blkOf (.slice a2 (l.length + m.length) c2) = some b → o < b := fun b hb => (ha.new b hb).elim (h.nd b) fun h => by omega
  have hf := h.ext.push h.od hnc ha
  refine ⟨k1, k2, ⟨fun x hx => ⟨?_, (h.bs x hx).2⟩, ?_, ?_, ?_, ?_, h.ns, h.n0, h.nc, ?_⟩⟩
  · rw [List.getElem?_set_ne (by have := (h.bs x hx).2; omega)]
    exact k2 x hx
  · rw [List.length_append]; exact set_at k1
  · refine ⟨(ha.own h.osh.own fun b hb => hne b (by have := h.ns b hb; omega)).set fun e => ?_, h.osh.fr⟩
    have := h.ns _ e; omega
  · rw [List.length_append]
    exact ⟨ho.set fun e => by have := hn2 _ e; omega, fun b hb => by have := hn2 b hb; omega⟩
  · rw [List.length_append]; exact hn2
  · exact hf.set k1 (by omega) (by omega)
theorem GroF.da {cb : Nat} {H0 H : AH} {bx : List (Nat × Blk)} {o : Nat} {sh : Value} {ss : List Int} {a' : Option Addr} {c' : Nat} {l : List Int} (h : GroF cb H0 bx o sh ss a' c' l H) {b : Nat} {k : Blk} {cs : List Value} (hb : b < o) (hs : blkOf sh ≠ some b) (h0 : H0.length ≤ b) (hk : H[b]? = some ⟨cs, .own⟩) :
    DA H0 (H.set b k) sh (.slice a' l.length c') ss l ∧ Frm cb H0 (H.set b k) := by
  have hnc := h.nc
  refine ⟨⟨⟨h.osh.own.set hs, h.osh.fr⟩, ⟨h.od.own.set fun e => ?_, h.od.fr⟩, fun g h1 h2 => ?_⟩, h.ext.set hk h0 (by omega)⟩
  · have := h.nd _ e; omega
  · have := h.nd _ h2; have := h.ns _ h1; omega

set_option maxHeartbeats 4000000 in
theorem l3Fill_ok {H : AH} {cb : Nat} {v : Value} {l : List Int} (hc : Cur H cb) (hv : OwnRow H v l) (hn : blkOf v ≠ some cb) (hl : l.length ≤ 1048576) : CallsA Try.prog 53 #[.pointer (some ⟨cb, 0, none⟩), v] H fun r H' =>
    (∃ p q dt, r = .agg #[p, q] ∧ DA H H' p q l dt ∧ dt.length = (sizeI l).toNat ∧ ∀ x ∈ dt, numOk x = true) ∧ Frm cb H H' := by
  have hlt := hc.lt
  obtain ⟨a, c, rfl⟩ := hv.isSlice
  refine w53 ?_
  unfold k53
  simp -implicitDefEqProofs only [kz, kk0, kk1, kk2, kk3, ↓two_true, ↓two_false, oS_some, oM_some, mkv, aggAt, Nat.reduceLeDiff, Nat.reduceSub, Nat.reduceMul, implies_true, Nat.reduceEqDiff, reduceIte, Nat.reduceAdd, Nat.reduceBEq, reduceCtorEq, al26, ap24_24, bd26, bs24_0, bs24_1, fa26_1, ld24, ld26, st24, st26]
  refine oA_own (l := []) (OwnRow.at0 (cs := []) (by rw [gti]; rfl)) hv.int.mono (by simp; omega) fun a2 c2 H1 o1 x1 => ?_
  simp only [List.length_nil, Nat.zero_add, List.nil_append] at o1 x1 ⊢
  have b0 := x1.at (b := H.length) (by rw [gt0]; rfl) (by simp [blkOf])
  have f1 : Frm cb H H1 := (Frm.refl hc).app.push (v := .slice (some ⟨H.length + 1, 0, none⟩) 0 1) (l := []) ⟨OwnRow.at0 (cs := []) (by rw [gti]; rfl), fun b hb => by simp [blkOf] at hb; omega⟩ hlt x1
  have hl1 := x1.len
  simp only [List.length_append, List.length_cons, List.length_nil] at hl1
  have n1 : ∀ b, blkOf (.slice a2 l.length c2) = some b → H.length + 1 ≤ b := fun b hb => by
    rcases x1.new b hb with h | h
    · simp [blkOf] at h; omega
    · simp at h; omega
  have hsz := sizeI_le (l := l)
  simp -implicitDefEqProofs only [kz, kk0, kk1, kk2, kk3, ↓two_true, ↓two_false, oS_some, oM_some, mkv, aggAt, Nat.reduceLeDiff, Nat.reduceSub, Nat.reduceMul, implies_true, Nat.reduceEqDiff, reduceIte, Nat.reduceAdd, Nat.reduceBEq, reduceCtorEq, al26, ap24_24, bd26, bs24_0, bs24_1, fa26_1, ld24, ld26, st24, st26]
  refine rW_loop (σ := Nat × Option Addr × Nat × List Int) (fun x tm H' => tm 0 = .pointer (some ⟨cb, 0, none⟩) ∧ tm 1 = .slice a l.length c ∧ tm 4 = .pointer (some ⟨H.length, 0, none⟩) ∧ tm 5 = .pointer (some ⟨H1.length, 0, none⟩) ∧ tm 6 = .int .i64 x.1 ∧
    x.2.2.2.length = x.1 ∧ x.1 ≤ (sizeI l).toNat ∧ (∀ y ∈ x.2.2.2, numOk y = true) ∧ GroF cb H [(H.length, ⟨[.slice none 0 0, .slice none 0 0], .own⟩)] H1.length (.slice a2 l.length c2) l x.2.1 x.2.2.1 x.2.2.2 H') (fun x => (sizeI l).toNat - x.1) (0, none, 0, []) ?_ ?_
  · refine ⟨rfl, rfl, rfl, rfl, rfl, rfl, Nat.zero_le _, fun _ h => by simp at h, ⟨fun x hx => ?_, by rw [gt0]; rfl, ?_, ⟨OwnRow.nil, fun b hb => by simp [blkOf] at hb⟩, fun b hb => by simp [blkOf] at hb, fun b hb => ?_, by omega, hlt, f1.app⟩⟩
    · rw [List.mem_singleton.1 hx]; exact ⟨gtl b0, by omega, by simp only; omega⟩
    · exact ⟨o1.mono, fun b hb => by have := n1 b hb; omega⟩
    · have := n1 b hb
      exact ⟨o1.lt b hb, fun x hx => by rw [List.mem_singleton.1 hx]; simp only; omega⟩
  · rintro ⟨i, a', c', dt⟩ tm H' ⟨h0, h1, h4, h5, h6, hi, hle, hok, hg⟩
    simp only at h6 hi hle hok hg
    have es := fun Φ => (specSizeOf_ok (hg.ext.own hv hn).int (by omega)).eq0 (Φ := Φ)
    simp -implicitDefEqProofs only [kz, kk0, kk1, kk2, kk3, ↓two_true, ↓two_false, oS_some, oM_some, mkv, aggAt, Nat.reduceLeDiff, Nat.reduceSub, Nat.reduceMul, implies_true, Nat.reduceEqDiff, reduceIte, Nat.reduceAdd, Nat.reduceBEq, reduceCtorEq, al26, ap24_24, bd26, bs24_0, bs24_1, fa26_1, ld24, ld26, st24, st26, h0, h1, h4, h5, h6, es]
    refine two_intro (fun hlt2 => ?_) (fun hlt2 => ?_)
    · have hlt3 : (i : Int) < sizeI l := by simpa using hlt2
      simp -implicitDefEqProofs only [kz, kk0, kk1, kk2, kk3, ↓two_true, ↓two_false, oS_some, oM_some, mkv, aggAt, Nat.reduceLeDiff, Nat.reduceSub, Nat.reduceMul, implies_true, Nat.reduceEqDiff, reduceIte, Nat.reduceAdd, Nat.reduceBEq, reduceCtorEq, al26, ap24_24, bd26, bs24_0, bs24_1, fa26_1, ld24, ld26, st24, st26, h0, h1, h4, h5, h6, rd_own hg.out]
      refine (l1DrawNum_ok hg.ext.cur).mono ?_
      rintro _ H2 ⟨⟨y, rfl, hy⟩, hf⟩
      have hg2 := hg.frm hf
      simp -implicitDefEqProofs only [kz, kk0, kk1, kk2, kk3, ↓two_true, ↓two_false, oS_some, oM_some, mkv, aggAt, Nat.reduceLeDiff, Nat.reduceSub, Nat.reduceMul, implies_true, Nat.reduceEqDiff, reduceIte, Nat.reduceAdd, Nat.reduceBEq, reduceCtorEq, al26, ap24_24, bd26, bs24_0, bs24_1, fa26_1, ld24, ld26, st24, st26, h0, h1, h4, h5, h6, rd_own hg.out, rd_own hg2.out]
      refine oA_own hg2.od.own.mono intRow1 (by simp; omega) fun a3 c3 H3 o3 x3 => ?_
      obtain ⟨k1, k2, k3⟩ := hg2.mono.push o3 x3
      simp -implicitDefEqProofs only [kz, kk0, kk1, kk2, kk3, ↓two_true, ↓two_false, oS_some, oM_some, mkv, aggAt, Nat.reduceLeDiff, Nat.reduceSub, Nat.reduceMul, implies_true, Nat.reduceEqDiff, reduceIte, Nat.reduceAdd, Nat.reduceBEq, reduceCtorEq, al26, ap24_24, bd26, bs24_0, bs24_1, fa26_1, ld24, ld26, st24, st26, h0, h1, h4, h5, h6, wrt_own k1, IntWalk.i64_in (↑i + 1) (by omega)]
      simp only [List.length_cons, List.length_nil, Nat.zero_add] at k3
      refine ⟨(i + 1, a3, c3, dt ++ [y]), by simp only; omega, by simp, by simp [hi], by simp only; omega, fun z hz => ?_, k3⟩
      rcases List.mem_append.1 hz with h | h
      · exact hok z h
      · rw [List.mem_singleton.1 h]; exact hy
    · have hlt3 : ¬ (i : Int) < sizeI l := by simpa using hlt2
      have k0 : H'[H.length]? = _ := (hg.bs _ (List.mem_singleton.2 rfl)).1
      have k4 := rd_own (set_at (k' := ⟨[.slice a2 l.length c2, .slice a' dt.length c'], .own⟩) k0)
      simp -implicitDefEqProofs only [kz, kk0, kk1, kk2, kk3, ↓two_true, ↓two_false, oS_some, oM_some, mkv, aggAt, Nat.reduceLeDiff, Nat.reduceSub, Nat.reduceMul, implies_true, Nat.reduceEqDiff, reduceIte, Nat.reduceAdd, Nat.reduceBEq, reduceCtorEq, al26, ap24_24, bd26, bs24_0, bs24_1, fa26_1, ld24, ld26, st24, st26, h0, h1, h4, h5, h6, rd_own hg.out, wrt_own k0, k4]
      have hne : blkOf (.slice a2 l.length c2) ≠ some H.length := fun e => by have := n1 _ e; omega
      obtain ⟨d1, d2⟩ := hg.da (b := H.length) (k := ⟨[.slice a2 l.length c2, .slice a' dt.length c'], .own⟩) (by omega) hne (Nat.le_refl _) k0
      exact ⟨⟨_, _, dt, rfl, d1, by omega, hok⟩, d2⟩

set_option maxHeartbeats 4000000 in
theorem l3DrawRight_ok {H : AH} {cb : Nat} (hc : Cur H cb) : CallsA Try.prog 61 #[.pointer (some ⟨cb, 0, none⟩)] H fun r H' =>
    (∃ p q sh dt, r = .agg #[p, q] ∧ DA H H' p q sh dt ∧ sh.length ≤ 3 ∧ dt.length = (sizeI sh).toNat ∧ ∀ x ∈ dt, numOk x = true) ∧ Frm cb H H' := by
  have hlt := hc.lt
  refine w61 ?_
  unfold k61
  simp -implicitDefEqProofs only [kz, kk0, kk1, kk2, kk3, ↓two_true, ↓two_false, oS_some, oM_some, mkv, aggAt, Nat.reduceLeDiff, Nat.reduceSub, Nat.reduceMul, implies_true, Nat.reduceEqDiff, reduceIte, Nat.reduceAdd, Nat.reduceBEq, reduceCtorEq, al26, ld26, st26]
  refine (l2DrawRight_ok hc.mono).mono ?_
  rintro _ H1 ⟨⟨l, hl, hn⟩, hf⟩
  have b0 := hf.at (b := H.length) (by rw [gt0]; rfl) (by omega)
  simp -implicitDefEqProofs only [kz, kk0, kk1, kk2, kk3, ↓two_true, ↓two_false, oS_some, oM_some, mkv, aggAt, Nat.reduceLeDiff, Nat.reduceSub, Nat.reduceMul, implies_true, Nat.reduceEqDiff, reduceIte, Nat.reduceAdd, Nat.reduceBEq, reduceCtorEq, al26, ld26, st26]
  have hlt2 : cb < (H ++ [⟨[.slice none 0 0, .slice none 0 0], .own⟩] : AH).length := by simp; omega
  refine (l3Fill_ok hf.cur hl.own (hl.ne hlt2) (by omega)).mono ?_
  rintro _ H2 ⟨⟨p, q, dt, rfl, hd, h1, h2⟩, hg⟩
  have b1 := hg.at b0 (by omega)
  obtain ⟨pa, pc, rfl⟩ := hd.sh.own.isSlice
  obtain ⟨qa, qc, rfl⟩ := hd.dt.own.isSlice
  have hl1 := hf.len
  simp only [List.length_append, List.length_cons, List.length_nil] at hl1
  have m1 : ∀ b, blkOf (.slice pa l.length pc) = some b → H.length < b := fun b hb => by have := hd.sh.fr b hb; omega
  have m2 : ∀ b, blkOf (.slice qa dt.length qc) = some b → H.length < b := fun b hb => by have := hd.dt.fr b hb; omega
  have k4 := rd_own (set_at (k' := ⟨[.slice pa l.length pc, .slice qa dt.length qc], .own⟩) b1)
  simp -implicitDefEqProofs only [kz, kk0, kk1, kk2, kk3, ↓two_true, ↓two_false, oS_some, oM_some, mkv, aggAt, Nat.reduceLeDiff, Nat.reduceSub, Nat.reduceMul, implies_true, Nat.reduceEqDiff, reduceIte, Nat.reduceAdd, Nat.reduceBEq, reduceCtorEq, al26, ld26, st26, wrt_own b1, k4]
  refine ⟨⟨_, _, l, dt, rfl, ⟨⟨hd.sh.own.set fun e => by have := m1 _ e; omega, fun b hb => by have := m1 b hb; omega⟩, ⟨hd.dt.own.set fun e => by have := m2 _ e; omega, fun b hb => by have := m2 b hb; omega⟩, hd.dj⟩, hn, h1, h2⟩, ?_⟩
  exact ((Frm.refl hc).app.trans (hf.trans hg)).set b1 (Nat.le_refl _) (by omega)

theorem OwnRow.wr1 {H : AH} {b o : Nat} {cs : List Value} {l : List Int} {k : Nat} {x : Int} (h1 : H[b]? = some ⟨cs, .own⟩) (h2 : o + l.length ≤ cs.length) (h3 : ∀ (i : Nat) x, l[i]? = some x → cs[o + i]? = some (.int .i64 x)) (hk : k < l.length) :
    OwnRow (H.set b ⟨cs.set (o + k) (.int .i64 x), .own⟩) (.slice (some ⟨b, o, none⟩) l.length 1) (l.set k x) := by
  refine .inr ⟨b, o, cs.set (o + k) (.int .i64 x), by rw [List.length_set], set_at h1, by simp; omega, ?_⟩
  refine List.ext_getElem? fun i => ?_
  rw [List.length_set]
  rcases Nat.lt_or_ge i l.length with h | h
  · rw [List.getElem?_take_of_lt h, List.getElem?_drop]
    simp only [ints, List.getElem?_map]
    rcases Nat.eq_or_lt_of_le (Nat.zero_le 0) with _ | h0
    · by_cases e : k = i
      · subst e
        rw [List.getElem?_set_self (by omega), List.getElem?_set_self hk]; rfl
      · rw [List.getElem?_set_ne (by omega), List.getElem?_set_ne e, List.getElem?_eq_getElem h, h3 i _ (List.getElem?_eq_getElem h)]; rfl
    · omega
  · rw [List.getElem?_eq_none (by simp; omega), List.getElem?_eq_none (by simp [ints]; omega)]
theorem nints {n : Nat} : (List.replicate n [Value.int .i64 0]).flatten = ints (List.replicate n 0) := by
  rw [List.flatten_replicate_singleton]; simp [ints]
theorem DR.set {H0 H : AH} {v : Value} {l : List Int} {b : Nat} {k : Blk} (h : DR H0 H v l) (hb : blkOf v ≠ some b) : DR H0 (H.set b k) v l := ⟨h.own.set hb, h.fr⟩
theorem DA.set {H0 H : AH} {p q : Value} {sh dt : List Int} {b : Nat} {k : Blk} (h : DA H0 H p q sh dt) (h1 : blkOf p ≠ some b) (h2 : blkOf q ≠ some b) : DA H0 (H.set b k) p q sh dt := ⟨h.sh.set h1, h.dt.set h2, h.dj⟩
theorem DR.lt {H0 H : AH} {v : Value} {l : List Int} (h : DR H0 H v l) : ∀ b, blkOf v = some b → b < H.length := h.own.lt
theorem ne_of_lt {v : Value} {n b : Nat} (h1 : ∀ b, blkOf v = some b → b < n) (h : n ≤ b) : blkOf v ≠ some b := fun e => by have := h1 b e; omega
theorem ne_of_ge {v : Value} {n b : Nat} (h1 : ∀ b, blkOf v = some b → n ≤ b) (h : b < n) : blkOf v ≠ some b := fun e => by have := h1 b e; omega

set_option maxHeartbeats 4000000 in
theorem l3Draw_ok {H : AH} {cb : Nat} (hc : Cur H cb) : CallsA Try.prog 26 #[.pointer (some ⟨cb, 0, none⟩)] H fun r H' =>
    (∃ p q sh dt, r = .agg #[p, q] ∧ DA H H' p q sh dt ∧ sh.length ≤ 4 ∧ dt.length ≤ 301) ∧ Frm cb H H' := by
  have hlt := hc.lt
  refine w26 ?_
  unfold k26
  simp -implicitDefEqProofs only [kz, kk0, kk1, kk2, kk3, ↓two_true, ↓two_false, oS_some, oM_some, mkv, aggAt, Nat.reduceLeDiff, Nat.reduceSub, Nat.reduceMul, implies_true, Nat.reduceEqDiff, reduceIte, Nat.reduceAdd, Nat.reduceBEq, reduceCtorEq, al26, ap24_24, bd26, bs24_1, fa26_0, fa26_1, ix24, ld24, ld26, ln24, ms24, st3, st24, st26]
  refine (l3DrawRight_ok hc.mono).mono ?_
  rintro _ H1 ⟨⟨p, q, sh, dt, rfl, d, l1, l2, -⟩, hf⟩
  have l2 : dt.length ≤ 300 := by have := sizeI_le (l := sh); omega
  have b0 := hf.at (b := H.length) (by rw [gt0]; rfl) (by omega)
  have hl1 := hf.len
  simp only [List.length_append, List.length_cons, List.length_nil] at hl1
  have hlt2 : cb < (H ++ [⟨[.slice none 0 0, .slice none 0 0], .own⟩] : AH).length := by simp; omega
  obtain ⟨pa, pc, rfl⟩ := d.sh.own.isSlice
  obtain ⟨qa, qc, rfl⟩ := d.dt.own.isSlice
  simp -implicitDefEqProofs only [kz, kk0, kk1, kk2, kk3, ↓two_true, ↓two_false, oS_some, oM_some, mkv, aggAt, Nat.reduceLeDiff, Nat.reduceSub, Nat.reduceMul, implies_true, Nat.reduceEqDiff, reduceIte, Nat.reduceAdd, Nat.reduceBEq, reduceCtorEq, al26, ap24_24, bd26, bs24_1, fa26_0, fa26_1, ix24, ld24, ld26, ln24, ms24, st3, st24, st26]
  have hf := (Frm.refl hc).app.trans hf
  have p1 := d.sh.lt
  have q1 := d.dt.lt
  have p0 : ∀ b, blkOf (.slice pa sh.length pc) = some b → H.length + 1 ≤ b := fun b hb => by have := d.sh.fr b hb; simpa using this
  have q0 : ∀ b, blkOf (.slice qa dt.length qc) = some b → H.length + 1 ≤ b := fun b hb => by have := d.dt.fr b hb; simpa using this
  have d := (d.mono (L := [⟨[.slice pa sh.length pc, .slice qa dt.length qc], .own⟩])).back (H0 := H) (by simp)
  have bo : (H1 ++ [⟨[.slice pa sh.length pc, .slice qa dt.length qc], .own⟩] : AH)[H1.length]? = some ⟨[.slice pa sh.length pc, .slice qa dt.length qc], .own⟩ := by rw [gt0]; rfl
  have hf := hf.app (L := [⟨[.slice pa sh.length pc, .slice qa dt.length qc], .own⟩])
  have b0 := gtl (L := [⟨[.slice pa sh.length pc, .slice qa dt.length qc], .own⟩]) b0
  have hlo : (H1 ++ [⟨[.slice pa sh.length pc, .slice qa dt.length qc], .own⟩] : AH).length = H1.length + 1 := by simp
  generalize (H1 ++ [⟨[.slice pa sh.length pc, .slice qa dt.length qc], .own⟩] : AH) = H2 at *
  refine (l1Below_ok hf.cur).mono ?_
  rintro _ H3 ⟨⟨v, rfl, _⟩, hg⟩
  have hl3 := hg.len
  have d := d.frm hg hlt
  have bo := hg.at bo (by omega)
  have b0 := hg.at b0 (by omega)
  have hf := hf.trans hg
  clear hg
  simp -implicitDefEqProofs only [kz, kk0, kk1, kk2, kk3, ↓two_true, ↓two_false, oS_some, oM_some, mkv, aggAt, Nat.reduceLeDiff, Nat.reduceSub, Nat.reduceMul, implies_true, Nat.reduceEqDiff, reduceIte, Nat.reduceAdd, Nat.reduceBEq, reduceCtorEq, al26, ap24_24, bd26, bs24_1, fa26_0, fa26_1, ix24, ld24, ld26, ln24, ms24, st3, st24, st26]
  refine two_intro (fun h => ?_) (fun h => two_intro (fun h => ?_) (fun h => two_intro (fun h => ?_) (fun h => two_intro (fun h => ?_) (fun h => ?_))))
  · simp -implicitDefEqProofs only [kz, kk0, kk1, kk2, kk3, ↓two_true, ↓two_false, oS_some, oM_some, mkv, aggAt, Nat.reduceLeDiff, Nat.reduceSub, Nat.reduceMul, implies_true, Nat.reduceEqDiff, reduceIte, Nat.reduceAdd, Nat.reduceBEq, reduceCtorEq, al26, ap24_24, bd26, bs24_1, fa26_0, fa26_1, ix24, ld24, ld26, ln24, ms24, st3, st24, st26, rd_own bo]
    refine oA_own d.dt.own.mono intRow1 (by simp; omega) fun a2 c2 H4 o4 x4 => ?_
    have bo4 := x4.at (gtl bo) (ne_of_lt q1 (Nat.le_refl _))
    have b04 := x4.at (gtl b0) (ne_of_ge q0 (by omega))
    have b05 : (H4.set H1.length ⟨[.slice pa sh.length pc, .slice a2 (dt.length + 1) c2], .own⟩)[H.length]? = _ := (List.getElem?_set_ne (by omega)).trans b04
    have e5 := rd_own (set_at (k' := ⟨[.slice pa sh.length pc, .slice a2 (dt.length + 1) c2], .own⟩) bo4)
    have e6 := rd_own (set_at (k' := ⟨[.slice pa sh.length pc, .slice a2 (dt.length + 1) c2], .own⟩) b05)
    simp -implicitDefEqProofs only [kz, kk0, kk1, kk2, kk3, ↓two_true, ↓two_false, oS_some, oM_some, mkv, aggAt, Nat.reduceLeDiff, Nat.reduceSub, Nat.reduceMul, implies_true, Nat.reduceEqDiff, reduceIte, Nat.reduceAdd, Nat.reduceBEq, reduceCtorEq, al26, ap24_24, bd26, bs24_1, fa26_0, fa26_1, ix24, ld24, ld26, ln24, ms24, st3, st24, st26, wrt_own bo4, e5, wrt_own b05, e6]
    have n2 : ∀ b, blkOf (.slice a2 (dt.length + 1) c2) = some b → H.length + 1 ≤ b ∧ b ≠ H1.length := fun b hb => by
      rcases x4.new b hb with h | h
      · have := q0 b h; have := q1 b h; omega
      · simp at h; omega
    have s4 := x4.row d.sh.mono d.dj
    refine ⟨⟨_, _, sh, dt ++ [1], rfl, ⟨(s4.set (ne_of_lt p1 (Nat.le_refl _))).set (ne_of_ge p0 (by omega)), ⟨(o4.set fun e => (n2 _ e).2 rfl).set fun e => ?_, fun b hb => ?_⟩, fun b h1 h2 => ?_⟩, by omega, by simp; omega⟩, ?_⟩
    · have := n2 _ e; omega
    · have := n2 b hb; omega
    · rcases x4.new b h2 with h | h
      · exact d.dj b h1 h
      · have := p1 b h1; simp at h; omega
    · exact ((hf.app.push d.dt.mono hlt x4).set bo4 (by omega) (by omega)).set b05 (Nat.le_refl _) (by omega)
  · refine (l2Draw_ok hf.cur).mono ?_
    rintro _ H4 ⟨⟨l, hl, ln⟩, hg⟩
    obtain ⟨la, lc, rfl⟩ := hl.own.isSlice
    have bo4 := hg.at bo (by omega)
    have b04 := hg.at b0 (by omega)
    have d := d.frm hg hlt
    have b05 : (H4.set H1.length ⟨[.slice la l.length lc, .slice qa dt.length qc], .own⟩)[H.length]? = _ := (List.getElem?_set_ne (by omega)).trans b04
    have e5 := rd_own (set_at (k' := ⟨[.slice la l.length lc, .slice qa dt.length qc], .own⟩) bo4)
    have e6 := rd_own (set_at (k' := ⟨[.slice la l.length lc, .slice qa dt.length qc], .own⟩) b05)
    simp -implicitDefEqProofs only [kz, kk0, kk1, kk2, kk3, ↓two_true, ↓two_false, oS_some, oM_some, mkv, aggAt, Nat.reduceLeDiff, Nat.reduceSub, Nat.reduceMul, implies_true, Nat.reduceEqDiff, reduceIte, Nat.reduceAdd, Nat.reduceBEq, reduceCtorEq, al26, ap24_24, bd26, bs24_1, fa26_0, fa26_1, ix24, ld24, ld26, ln24, ms24, st3, st24, st26, wrt_own bo4, e5, wrt_own b05, e6]
    have n2 : ∀ b, blkOf (.slice la l.length lc) = some b → H3.length ≤ b := hl.fr
    refine ⟨⟨_, _, l, dt, rfl, ⟨((hl.back (by omega)).set (ne_of_ge n2 (by omega))).set (ne_of_ge n2 (by omega)), (d.dt.set (ne_of_lt q1 (Nat.le_refl _))).set (ne_of_ge q0 (by omega)), fun b h1 h2 => ?_⟩, by omega, by omega⟩, ?_⟩
    · have := n2 b h1; have := q1 b h2; omega
    · exact ((hf.trans hg).set bo4 (by omega) (by omega)).set b05 (Nat.le_refl _) (by omega)
  · simp -implicitDefEqProofs only [kz, kk0, kk1, kk2, kk3, ↓two_true, ↓two_false, oS_some, oM_some, mkv, aggAt, Nat.reduceLeDiff, Nat.reduceSub, Nat.reduceMul, implies_true, Nat.reduceEqDiff, reduceIte, Nat.reduceAdd, Nat.reduceBEq, reduceCtorEq, al26, ap24_24, bd26, bs24_1, fa26_0, fa26_1, ix24, ld24, ld26, ln24, ms24, st3, st24, st26, rd_own bo]
    refine two_intro (fun h => ?_) (fun h => ?_)
    · have hpos : 0 < dt.length := by simpa using h
      refine (l1Below_ok hf.cur).mono ?_
      rintro _ H4 ⟨⟨k, rfl, _, hk⟩, hg⟩
      have hk := hk (by omega)
      obtain ⟨k, rfl⟩ : ∃ j : Nat, k = j := ⟨k.toNat, by omega⟩
      have bo4 := hg.at bo (by omega)
      have b04 := hg.at b0 (by omega)
      have d := d.frm hg hlt
      have hf := hf.trans hg
      simp -implicitDefEqProofs only [kz, kk0, kk1, kk2, kk3, ↓two_true, ↓two_false, oS_some, oM_some, mkv, aggAt, Nat.reduceLeDiff, Nat.reduceSub, Nat.reduceMul, implies_true, Nat.reduceEqDiff, reduceIte, Nat.reduceAdd, Nat.reduceBEq, reduceCtorEq, al26, ap24_24, bd26, bs24_1, fa26_0, fa26_1, ix24, ld24, ld26, ln24, ms24, st3, st24, st26, rd_own bo, rd_own bo4]
      refine (l1DrawRaw_ok hf.cur).mono ?_
      rintro _ H5 ⟨⟨x, rfl, _⟩, hg⟩
      have bo5 := hg.at bo4 (by omega)
      have b05 := hg.at b04 (by omega)
      have d := d.frm hg hlt
      have hf := hf.trans hg
      obtain ⟨b, o, cs, hqv, hb, hle, hcs⟩ := d.dt.own.blk hpos
      injection hqv with e1 _ e2
      subst e1; subst e2
      have hbq := q1 b rfl
      have hbp := q0 b rfl
      have bo6 : (H5.set b ⟨cs.set (o + k) (.int .i64 x), .own⟩)[H1.length]? = _ := (List.getElem?_set_ne (by omega)).trans bo5
      have b06 : (H5.set b ⟨cs.set (o + k) (.int .i64 x), .own⟩)[H.length]? = _ := (List.getElem?_set_ne (by omega)).trans b05
      have e7 := rd_own (set_at (k' := ⟨[.slice pa sh.length pc, .slice (some ⟨b, o, none⟩) dt.length 1], .own⟩) b06)
      simp -implicitDefEqProofs only [kz, kk0, kk1, kk2, kk3, ↓two_true, ↓two_false, oS_some, oM_some, mkv, aggAt, Nat.reduceLeDiff, Nat.reduceSub, Nat.reduceMul, implies_true, Nat.reduceEqDiff, reduceIte, Nat.reduceAdd, Nat.reduceBEq, reduceCtorEq, al26, ap24_24, bd26, bs24_1, fa26_0, fa26_1, ix24, ld24, ld26, ln24, ms24, st3, st24, st26, rd_own bo, rd_own bo4, rd_own bo5, Int.toNat_natCast, Nat.mul_one, wrt_own hb, rd_own bo6, wrt_own b06, e7]
      have hkl : k < dt.length := by omega
      have w := OwnRow.wr1 (x := x) hb hle hcs hkl
      refine ⟨⟨by omega, by omega⟩, by omega, ⟨⟨_, _, sh, dt.set k x, rfl, ⟨(d.sh.set fun e => d.dj b e rfl).set (ne_of_ge p0 (by omega)), ⟨w.set (ne_of_ge q0 (by omega)), d.dt.fr⟩, d.dj⟩, by omega, by simp; omega⟩, ?_⟩⟩
      exact (hf.set hb (by omega) (by omega)).set b06 (Nat.le_refl _) (by omega)
    · have e7 := rd_own (set_at (k' := ⟨[.slice pa sh.length pc, .slice qa dt.length qc], .own⟩) b0)
      simp -implicitDefEqProofs only [kz, kk0, kk1, kk2, kk3, ↓two_true, ↓two_false, oS_some, oM_some, mkv, aggAt, Nat.reduceLeDiff, Nat.reduceSub, Nat.reduceMul, implies_true, Nat.reduceEqDiff, reduceIte, Nat.reduceAdd, Nat.reduceBEq, reduceCtorEq, al26, ap24_24, bd26, bs24_1, fa26_0, fa26_1, ix24, ld24, ld26, ln24, ms24, st3, st24, st26, rd_own bo, wrt_own b0, e7]
      exact ⟨⟨_, _, sh, dt, rfl, d.set (ne_of_ge p0 (by omega)) (ne_of_ge q0 (by omega)), by omega, by omega⟩, hf.set b0 (Nat.le_refl _) (by omega)⟩
  · refine (l1Below_ok hf.cur.mono).mono ?_
    rintro _ H4 ⟨⟨k, rfl, _, hk⟩, hg⟩
    have hk := hk (by omega)
    simp -implicitDefEqProofs only [kz, kk0, kk1, kk2, kk3, ↓two_true, ↓two_false, oS_some, oM_some, mkv, aggAt, Nat.reduceLeDiff, Nat.reduceSub, Nat.reduceMul, implies_true, Nat.reduceEqDiff, reduceIte, Nat.reduceAdd, Nat.reduceBEq, reduceCtorEq, al26, ap24_24, bd26, bs24_1, fa26_0, fa26_1, ix24, ld24, ld26, ln24, ms24, st3, st24, st26, rd_own bo]
    rw [IntWalk.i64_in (300 + k) (by omega)]
    obtain ⟨n, hn⟩ : ∃ n : Nat, n = (300 + k).toNat := ⟨_, rfl⟩
    rw [← hn, nints]
    have hg0 : Frm cb H H4 := hf.app.trans hg
    have o300 : OwnRow H4 (.slice (some ⟨H3.length, 0, none⟩) 1 1) [300] := hg.own (OwnRow.new (l := [300])) (by simp [blkOf]; omega)
    have hl4 := hg.len
    simp only [List.length_append, List.length_cons, List.length_nil] at hl4
    have bo4 := gtl (L := [⟨ints (List.replicate n 0), .own⟩]) (hg.at (gtl bo) (by omega))
    have b04 := gtl (L := [⟨ints (List.replicate n 0), .own⟩]) (hg.at (gtl b0) (by omega))
    have on : OwnRow (H4 ++ [⟨ints (List.replicate n 0), .own⟩]) (.slice (some ⟨H4.length, 0, none⟩) n 1) (List.replicate n 0) := by
      have := OwnRow.new (H := H4) (l := List.replicate n 0)
      rwa [List.length_replicate] at this
    have o301 := o300.mono (L := [⟨ints (List.replicate n 0), .own⟩])
    have hf5 := hg0.app (L := [⟨ints (List.replicate n 0), .own⟩])
    refine ⟨by omega, ?_⟩
    generalize (H4 ++ [⟨ints (List.replicate n 0), .own⟩] : AH) = H5 at *
    have b05 : (H5.set H1.length ⟨[.slice (some ⟨H3.length, 0, none⟩) 1 1, .slice (some ⟨H4.length, 0, none⟩) n 1], .own⟩)[H.length]? = _ := (List.getElem?_set_ne (by omega)).trans b04
    have e5 := rd_own (set_at (k' := ⟨[.slice (some ⟨H3.length, 0, none⟩) 1 1, .slice (some ⟨H4.length, 0, none⟩) n 1], .own⟩) bo4)
    have e6 := rd_own (set_at (k' := ⟨[.slice (some ⟨H3.length, 0, none⟩) 1 1, .slice (some ⟨H4.length, 0, none⟩) n 1], .own⟩) b05)
    simp -implicitDefEqProofs only [kz, kk0, kk1, kk2, kk3, ↓two_true, ↓two_false, oS_some, oM_some, mkv, aggAt, Nat.reduceLeDiff, Nat.reduceSub, Nat.reduceMul, implies_true, Nat.reduceEqDiff, reduceIte, Nat.reduceAdd, Nat.reduceBEq, reduceCtorEq, al26, ap24_24, bd26, bs24_1, fa26_0, fa26_1, ix24, ld24, ld26, ln24, ms24, st3, st24, st26, wrt_own bo4, e5, wrt_own b05, e6]
    have m1 : ∀ b, blkOf (.slice (some ⟨H3.length, 0, none⟩) 1 1) = some b → b = H3.length := fun b hb => by simp [blkOf] at hb; omega
    have m2 : ∀ b, blkOf (.slice (some ⟨H4.length, 0, none⟩) n 1) = some b → b = H4.length := fun b hb => by simp [blkOf] at hb; omega
    refine ⟨⟨_, _, [300], List.replicate n 0, rfl, ⟨⟨(o301.set fun e => ?_).set fun e => ?_, fun b hb => ?_⟩, ⟨(on.set fun e => ?_).set fun e => ?_, fun b hb => ?_⟩, fun b h1 h2 => ?_⟩, by simp, by simp; omega⟩, ?_⟩
    · have := m1 _ e; omega
    · have := m1 _ e; omega
    · have := m1 _ hb; omega
    · have := m2 _ e; omega
    · have := m2 _ e; omega
    · have := m2 _ hb; omega
    · have := m1 _ h1; have := m2 _ h2; omega
    · exact (hf5.set bo4 (by omega) (by omega)).set b05 (Nat.le_refl _) (by omega)
  · have e7 := rd_own (set_at (k' := ⟨[.slice pa sh.length pc, .slice qa dt.length qc], .own⟩) b0)
    simp -implicitDefEqProofs only [kz, kk0, kk1, kk2, kk3, ↓two_true, ↓two_false, oS_some, oM_some, mkv, aggAt, Nat.reduceLeDiff, Nat.reduceSub, Nat.reduceMul, implies_true, Nat.reduceEqDiff, reduceIte, Nat.reduceAdd, Nat.reduceBEq, reduceCtorEq, al26, ap24_24, bd26, bs24_1, fa26_0, fa26_1, ix24, ld24, ld26, ln24, ms24, st3, st24, st26, rd_own bo, wrt_own b0, e7]
    exact ⟨⟨_, _, sh, dt, rfl, d.set (ne_of_ge p0 (by omega)) (ne_of_ge q0 (by omega)), by omega, by omega⟩, hf.set b0 (Nat.le_refl _) (by omega)⟩

inductive It where
  | box (o : Nat) (cs : List Value)
  | row (v : Value) (l : List Int)
  | cmp (x : Comp) (V : List CV)
def It.ok (H : AH) : It → Prop
  | .box o cs => H[o]? = some ⟨cs, .own⟩
  | .row v l => OwnRow H v l
  | .cmp x V => x.own H ∧ cvs H x.xs = V
def It.bs : It → Nat → Prop
  | .box o _, b => b = o
  | .row v _, b => blkOf v = some b
  | .cmp x _, b => x.bs b
theorem It.ok.same {H H' : AH} {x : It} (h : x.ok H) (hs : ∀ b, x.bs b → H'[b]? = H[b]?) : x.ok H' := by
  cases x with
  | box o cs => show H'[o]? = _; rw [hs o rfl]; exact h
  | row v l => exact OwnRow.same h hs
  | cmp x V => exact ⟨h.1.same hs, by rw [(Comp.rd.same h.1.rd hs).2]; exact h.2⟩
theorem OwnC.ownb {H : AH} {y : Value} (h : OwnC H y) : ∀ b, blkOf y = some b → ∃ cs, H[b]? = some (⟨cs, .own⟩ : Blk) := by
  intro b hb
  rcases h with ⟨n, rfl⟩ | ⟨n, rfl⟩ | ⟨e, _⟩ | ⟨b', o, cs, e, h2, _⟩
  · simp [blkOf] at hb
  · simp [blkOf] at hb
  · rw [e] at hb; simp [blkOf] at hb
  · rw [e] at hb; simp [blkOf] at hb; subst hb; exact ⟨cs, h2⟩
theorem It.ok.ownb {H : AH} {x : It} (h : x.ok H) : ∀ b, x.bs b → ∃ cs, H[b]? = some (⟨cs, .own⟩ : Blk) := by
  intro b hb
  cases x with
  | box o cs => cases hb; exact ⟨cs, h⟩
  | row v l =>
    rcases h with ⟨e, _⟩ | ⟨b', o, cs, e, h2, _⟩
    · rw [e] at hb; simp [It.bs, blkOf] at hb
    · rw [e] at hb; simp [It.bs, blkOf] at hb; subst hb; exact ⟨cs, h2⟩
  | cmp x V =>
    obtain ⟨h, _⟩ := h
    cases x with
    | cells ks xs =>
      obtain ⟨y, hy, e⟩ := hb
      exact (h.2.1 y hy).ownb b e
    | row v ks n xs =>
      rcases hb with hb | ⟨y, hy, e⟩
      · rcases (show OT H v ks n xs from h).row with ⟨h1, _⟩ | ⟨b', o, cs, h1, h2, h3⟩
        · rw [h1] at hb; simp [blkOf] at hb
        · rw [h1] at hb; simp [blkOf] at hb; subst hb; exact ⟨cs, h2⟩
      · obtain ⟨j, hj⟩ := List.mem_iff_getElem?.1 hy
        exact ((show OT H v ks n xs from h).own j y hj).ownb b e
theorem It.ok.lt {H : AH} {x : It} (h : x.ok H) : ∀ b, x.bs b → b < H.length := fun b hb => by
  obtain ⟨cs, h⟩ := h.ownb b hb
  exact (List.getElem?_eq_some_iff.1 h).1
/-- What a function holds: each by itself, none older than the call; a cursor may be there too. -/
structure LD (c : Option Nat) (H0 H : AH) (L : List It) : Prop where
  ok : ∀ (i : Nat) x, L[i]? = some x → x.ok H
  fr : ∀ (i : Nat) x, L[i]? = some x → ∀ b, x.bs b → H0.length ≤ b
  dj : ∀ (i j : Nat) x y, i ≠ j → L[i]? = some x → L[j]? = some y → ∀ b, x.bs b → ¬ y.bs b
  len : H0.length ≤ H.length
  keep : ∀ b, b < H0.length → c ≠ some b → H[b]? = H0[b]?
  cur : ∀ cb, c = some cb → Cur H cb
  nc : ∀ cb, c = some cb → ∀ (i : Nat) x, L[i]? = some x → ¬ x.bs cb
theorem LD.ext {H0 H : AH} {L : List It} (h : LD none H0 H L) : ∃ K, H = H0 ++ K := ext_of h.len fun b hb => h.keep b hb (by simp)
theorem LD.frm {cb : Nat} {H0 H : AH} {L : List It} (h : LD (some cb) H0 H L) : Frm cb H0 H := ⟨h.len, fun b hb hn => h.keep b hb (by simpa using Ne.symm hn), h.cur cb rfl⟩
theorem LD.nil {H : AH} : LD none H H [] := ⟨fun i x h => by simp at h, fun i x h => by simp at h, fun i j x y _ h => by simp at h, Nat.le_refl _, fun _ _ _ => rfl, fun _ h => by simp at h, fun _ h => by simp at h⟩
/-- Something new comes. -/
theorem LD.add {c : Option Nat} {H0 H H' : AH} {L : List It} {x : It} (h : LD c H0 H L) (hl : H.length ≤ H'.length) (hk : ∀ b, b < H.length → c ≠ some b → H'[b]? = H[b]?) (hc : ∀ cb, c = some cb → Cur H' cb) (hx : x.ok H') (hb : ∀ b, x.bs b → H.length ≤ b) : LD c H0 H' (x :: L) := by
  have same : ∀ (i : Nat) y, L[i]? = some y → y.ok H' := fun i y hy => (h.ok i y hy).same fun b hb => hk b ((h.ok i y hy).lt b hb) fun e => h.nc b e i y hy hb
  refine ⟨?_, ?_, ?_, Nat.le_trans h.len hl, fun b hb hn => ?_, hc, fun cb e => ?_⟩
  · rintro (_ | i) y hy
    · cases hy; exact hx
    · exact same i y hy
  · rintro (_ | i) y hy b hb2
    · cases hy; exact Nat.le_trans h.len (hb b hb2)
    · exact h.fr i y hy b hb2
  · rintro (_ | i) (_ | j) y z hne hy hz b h1 h2
    · exact hne rfl
    · cases hy; have := hb b h1; have := (h.ok j z hz).lt b h2; omega
    · cases hz; have := hb b h2; have := (h.ok i y hy).lt b h1; omega
    · exact h.dj i j y z (by omega) hy hz b h1 h2
  · rw [hk b (Nat.lt_of_lt_of_le hb h.len) hn, h.keep b hb hn]
  · rintro (_ | i) y hy h2
    · cases hy; have := hb cb h2; have := (h.cur cb e).lt; omega
    · exact h.nc cb e i y hy h2
theorem LD.tail {c : Option Nat} {H0 H : AH} {L : List It} {x : It} (h : LD c H0 H (x :: L)) : LD c H0 H L :=
  ⟨fun i y hy => h.ok (i + 1) y hy, fun i y hy => h.fr (i + 1) y hy, fun i j y z hne hy hz => h.dj (i + 1) (j + 1) y z (by omega) hy hz, h.len, h.keep, h.cur, fun cb e i y hy => h.nc cb e (i + 1) y hy⟩
theorem LD.call {cb : Nat} {H0 H H' : AH} {L : List It} (h : LD (some cb) H0 H L) (hf : Frm cb H H') : LD (some cb) H0 H' L :=
  (h.add (x := .row (.slice none 0 0) []) hf.len (fun b hb hn => hf.keep b hb (by simpa using Ne.symm hn)) (fun g e => by cases e; exact hf.cur) OwnRow.nil fun b hb => by simp [It.bs, blkOf] at hb).tail
theorem LD.extd {c : Option Nat} {H0 H H' : AH} {L : List It} (h : LD c H0 H L) (hf : ∃ K, H' = H ++ K) : LD c H0 H' L := by
  obtain ⟨K, rfl⟩ := hf
  exact (h.add (x := .row (.slice none 0 0) []) (by simp) (fun b hb _ => List.getElem?_append_left hb) (fun g e => (h.cur g e).mono) OwnRow.nil fun b hb => by simp [It.bs, blkOf] at hb).tail
theorem LD.box {c : Option Nat} {H0 H : AH} {L : List It} (h : LD c H0 H L) (cs : List Value) : LD c H0 (H ++ [⟨cs, .own⟩]) (.box H.length cs :: L) :=
  h.add (by simp) (fun b hb _ => List.getElem?_append_left hb) (fun g e => (h.cur g e).mono) (by show (H ++ [⟨cs, .own⟩])[H.length]? = _; rw [gt0]; rfl) fun b hb => by cases hb; exact Nat.le_refl _
end Go.Proofs.Ytpclegiocblpmaa.AM
