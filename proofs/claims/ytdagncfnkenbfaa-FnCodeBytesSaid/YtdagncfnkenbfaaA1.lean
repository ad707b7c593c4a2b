/- The abstract machine, its values and what only reckons: each abstract step that answers is a step of the model. -/
import Derived.Orders
import Derived.Deep.Upon
import Derived.Deep.AppendSrc
import Derived.Deep.MidRow
import Derived.Laws.IdiomCopy
import Derived.Laws.AppendOwn
set_option linter.unusedVariables false
set_option linter.unusedSimpArgs false
set_option linter.defProp false
/- The abstract machine, first part: its values, heaps and steps, and how they stand to the model's own. -/
namespace Go.Proofs.Ytdagncfnkenbfaa.AM
open Go

/-! ### abstract heaps -/
inductive St where
  | dead | ro | own
  deriving DecidableEq

structure Blk where
  cells : List Value
  st : St

abbrev AH := List Blk
abbrev Tm := Nat → Value
abbrev Hp := Nat → Option Blk

def AH.get (H : AH) : Hp := fun b => H[b]?

/-- Where an abstract block lies: its first cell, how many cells there are from there on. (An abstract slice bears, in the place of its capacity, how many cells an element has.) -/
structure Loc where
  base : Addr
  n : Nat

abbrev Rho := Nat → Option Loc

inductive VR (ρ : Rho) : Value → Value → Prop
  | bool (b : Bool) : VR ρ (.bool b) (.bool b)
  | int (k : IntKind) (n : Int) : VR ρ (.int k n) (.int k n)
  | string (s : ByteArray) : VR ρ (.string s) (.string s)
  | nilp : VR ρ (.pointer none) (.pointer none)
  | ptr {b o : Nat} {l : Loc} (h : ρ b = some l) : VR ρ (.pointer (some ⟨b, o, none⟩)) (.pointer (some (l.base.add o)))
  | nils : VR ρ (.slice none 0 0) (.slice none 0 0)
  | sl {b o n c c' : Nat} {x : Option Addr} {l : Loc} (hn : n ≤ c') (hb : ρ b = some l)
      (h : c' = 0 ∨ x = some (l.base.add o) ∧ o + c' * c ≤ l.n) : VR ρ (.slice (some ⟨b, o, none⟩) n c) (.slice x n c')
  | func {fn : Fn} {xs ys xs' ys' : Array Value} (hx : xs.size = xs'.size) (hy : ys.size = ys'.size)
      (h1 : ∀ i (h : i < xs.size) (h' : i < xs'.size), VR ρ xs[i] xs'[i]) (h2 : ∀ i (h : i < ys.size) (h' : i < ys'.size), VR ρ ys[i] ys'[i]) :
      VR ρ (.func fn xs ys) (.func fn xs' ys')
  | nilFunc : VR ρ .nilFunc .nilFunc
  | nilIface : VR ρ .nilIface .nilIface
  | agg {xs xs' : Array Value} (hx : xs.size = xs'.size) (h1 : ∀ i (h : i < xs.size) (h' : i < xs'.size), VR ρ xs[i] xs'[i]) : VR ρ (.agg xs) (.agg xs')
  | tuple {xs xs' : Array Value} (hx : xs.size = xs'.size) (h1 : ∀ i (h : i < xs.size) (h' : i < xs'.size), VR ρ xs[i] xs'[i]) : VR ρ (.tuple xs) (.tuple xs')

def Sub (ρ ρ' : Rho) : Prop := ∀ b l, ρ b = some l → ρ' b = some l
theorem Sub.refl (ρ : Rho) : Sub ρ ρ := fun _ _ h => h
theorem Sub.trans {ρ ρ' ρ'' : Rho} (h : Sub ρ ρ') (h' : Sub ρ' ρ'') : Sub ρ ρ'' := fun b l e => h' b l (h b l e)

theorem VR.mono {ρ ρ' : Rho} (hs : Sub ρ ρ') {v v' : Value} (h : VR ρ v v') : VR ρ' v v' := by
  induction h with
  | bool b => exact .bool b
  | int k n => exact .int k n
  | string s => exact .string s
  | nilp => exact .nilp
  | ptr h => exact .ptr (hs _ _ h)
  | nils => exact .nils
  | sl hn hb h => exact .sl hn (hs _ _ hb) h
  | func hx hy _ _ ih1 ih2 => exact .func hx hy ih1 ih2
  | nilFunc => exact .nilFunc
  | nilIface => exact .nilIface
  | agg hx _ ih => exact .agg hx ih
  | tuple hx _ ih => exact .tuple hx ih

/-- Lists of values, related one by one. -/
def VL (ρ : Rho) (xs ys : List Value) : Prop := xs.length = ys.length ∧ ∀ (i : Nat) (v v' : Value), xs[i]? = some v → ys[i]? = some v' → VR ρ v v'

theorem VL.nil {ρ : Rho} : VL ρ [] [] := ⟨rfl, by simp⟩
theorem VL.cons {ρ : Rho} {v v' : Value} {xs ys : List Value} (h : VR ρ v v') (hs : VL ρ xs ys) : VL ρ (v :: xs) (v' :: ys) := by
  refine ⟨by simp [hs.1], fun i x x' hx hx' => ?_⟩
  cases i with
  | zero => simp at hx hx'; subst hx; subst hx'; exact h
  | succ i => exact hs.2 i x x' (by simpa using hx) (by simpa using hx')
theorem VL.get {ρ : Rho} {xs ys : List Value} (h : VL ρ xs ys) {i : Nat} {v : Value} (hv : xs[i]? = some v) : ∃ v', ys[i]? = some v' ∧ VR ρ v v' := by
  have hi : i < ys.length := by rw [← h.1]; exact (List.getElem?_eq_some_iff.1 hv).1
  exact ⟨ys[i], List.getElem?_eq_getElem hi, h.2 i v _ hv (List.getElem?_eq_getElem hi)⟩
theorem VL.mono {ρ ρ' : Rho} (hs : Sub ρ ρ') {xs ys : List Value} (h : VL ρ xs ys) : VL ρ' xs ys := ⟨h.1, fun i v v' a b => (h.2 i v v' a b).mono hs⟩
theorem VL.append {ρ : Rho} {xs ys xs' ys' : List Value} (h : VL ρ xs ys) (h' : VL ρ xs' ys') : VL ρ (xs ++ xs') (ys ++ ys') := by
  refine ⟨by simp [h.1, h'.1], fun i v v' a b => ?_⟩
  by_cases hi : i < xs.length
  · rw [List.getElem?_append_left hi] at a
    rw [List.getElem?_append_left (h.1 ▸ hi)] at b
    exact h.2 i v v' a b
  · rw [List.getElem?_append_right (by omega)] at a
    rw [List.getElem?_append_right (by have := h.1; omega), ← h.1] at b
    exact h'.2 _ v v' a b
theorem VL.take {ρ : Rho} {xs ys : List Value} (h : VL ρ xs ys) (n : Nat) : VL ρ (xs.take n) (ys.take n) := by
  refine ⟨by simp [h.1], fun i v v' a b => ?_⟩
  rw [List.getElem?_take] at a b
  split at a <;> simp_all
  exact h.2 i v v' a b
theorem VL.drop {ρ : Rho} {xs ys : List Value} (h : VL ρ xs ys) (n : Nat) : VL ρ (xs.drop n) (ys.drop n) := by
  refine ⟨by simp [h.1], fun i v v' a b => ?_⟩
  rw [List.getElem?_drop] at a b
  exact h.2 _ v v' a b
theorem VL.set {ρ : Rho} {xs ys : List Value} (h : VL ρ xs ys) {v v' : Value} (hv : VR ρ v v') (n : Nat) : VL ρ (xs.set n v) (ys.set n v') := by
  refine ⟨by simp [h.1], fun i x x' a b => ?_⟩
  rw [List.getElem?_set] at a b
  by_cases hn : n = i
  · subst hn
    simp only [if_true] at a b
    split at a <;> simp at a
    split at b <;> simp at b
    subst a; subst b; exact hv
  · simp only [hn, if_false] at a b
    exact h.2 i x x' a b
theorem VL.map {ρ : Rho} {α : Type} {f g : α → Value} (h : ∀ x, VR ρ (f x) (g x)) (xs : List α) : VL ρ (xs.map f) (xs.map g) := by
  refine ⟨by simp, fun i v v' a b => ?_⟩
  simp only [List.getElem?_map, Option.map_eq_some_iff] at a b
  obtain ⟨x, hx, rfl⟩ := a
  obtain ⟨y, hy, rfl⟩ := b
  rw [hx] at hy; cases hy; exact h x
theorem VL.iff_array {ρ : Rho} {xs ys : Array Value} : VL ρ xs.toList ys.toList ↔ xs.size = ys.size ∧ ∀ i (h : i < xs.size) (h' : i < ys.size), VR ρ xs[i] ys[i] := by
  constructor
  · rintro ⟨h1, h2⟩
    refine ⟨by simpa using h1, fun i h h' => h2 i _ _ (by simp [h]) (by simp [h'])⟩
  · rintro ⟨h1, h2⟩
    refine ⟨by simpa using h1, fun i v v' a b => ?_⟩
    simp only [Array.getElem?_toList] at a b
    obtain ⟨h, rfl⟩ := Array.getElem?_eq_some_iff.1 a
    obtain ⟨h', rfl⟩ := Array.getElem?_eq_some_iff.1 b
    exact h2 i h h'
theorem VR.aggL {ρ : Rho} {xs ys : Array Value} (h : VL ρ xs.toList ys.toList) : VR ρ (.agg xs) (.agg ys) := .agg (VL.iff_array.1 h).1 (VL.iff_array.1 h).2
theorem VR.tupL {ρ : Rho} {xs ys : Array Value} (h : VL ρ xs.toList ys.toList) : VR ρ (.tuple xs) (.tuple ys) := .tuple (VL.iff_array.1 h).1 (VL.iff_array.1 h).2

/-! ### closed values: of no address -/
def closed1 : Value → Bool
  | .bool _ | .int _ _ | .string _ | .pointer none | .nilFunc | .nilIface => true
  | .slice none n c => n == 0 && c == 0
  | _ => false
def closed : Value → Bool
  | .agg xs => xs.all closed1
  | .tuple xs => xs.all closed1
  | v => closed1 v
theorem closed1_refl {ρ : Rho} {v : Value} (h : closed1 v = true) : VR ρ v v := by
  unfold closed1 at h
  split at h
  · exact .bool _
  · exact .int _ _
  · exact .string _
  · exact .nilp
  · exact .nilFunc
  · exact .nilIface
  · simp at h; obtain ⟨rfl, rfl⟩ := h; exact .nils
  · simp at h
theorem closed_refl {ρ : Rho} {v : Value} (h : closed v = true) : VR ρ v v := by
  unfold closed at h
  split at h
  · refine .agg rfl fun i h1 h2 => closed1_refl ?_
    exact (Array.all_eq_true.1 h) i h1
  · refine .tuple rfl fun i h1 h2 => closed1_refl ?_
    exact (Array.all_eq_true.1 h) i h1
  · exact closed1_refl h
theorem undef_refl {ρ : Rho} : VR ρ undef undef := closed_refl (by simp [undef, closed])

/-! ### scalars: values that are told whole -/
def scal1 : Value → Bool
  | .bool _ | .int _ _ | .string _ => true
  | _ => false
def scal : Value → Bool
  | .agg xs => xs.all scal1
  | v => scal1 v
theorem scal1_eq {ρ : Rho} {v v' : Value} (hs : scal1 v = true) (h : VR ρ v v') : v' = v := by
  cases h <;> simp [scal1] at hs <;> rfl
theorem scal_eq {ρ : Rho} {v v' : Value} (hs : scal v = true) (h : VR ρ v v') : v' = v := by
  cases h with
  | agg hx h1 =>
    simp only [scal] at hs
    congr 1
    apply Array.ext hx.symm
    intro i hi hi'
    exact scal1_eq ((Array.all_eq_true.1 hs) i hi') (h1 i hi' hi)
  | bool _ => rfl
  | int _ _ => rfl
  | string _ => rfl
  | _ => simp [scal, scal1] at hs

/-- A value of one cell. -/
def leaf : Value → Bool
  | .agg _ | .tuple _ => false
  | _ => true
theorem leaf_eq {ρ : Rho} {v v' : Value} (h : VR ρ v v') : leaf v' = leaf v := by cases h <;> rfl

theorem VR.cells {ρ : Rho} {v v' : Value} (h : VR ρ v v') : VL ρ v.cells.toList v'.cells.toList := by
  cases h with
  | agg hx h1 => exact VL.iff_array.2 ⟨hx, h1⟩
  | _ => exact VL.cons (by constructor <;> assumption) VL.nil

end Go.Proofs.Ytdagncfnkenbfaa.AM
/- The abstract machine, second part: how an abstract heap stands to the world, and what a step keeps. -/
namespace Go.Proofs.Ytdagncfnkenbfaa.AM
open Go

structure HR (ρ : Rho) (G : Hp) (w : World) : Prop where
  cell : ∀ b l k, ρ b = some l → G b = some k → k.st ≠ .dead → ∀ (i : Nat) (v : Value), k.cells[i]? = some v → ∃ v', w.cell? (l.base.add i) = some v' ∧ VR ρ v v'
  own : ∀ b l k, ρ b = some l → G b = some k → k.st = .own → l.base.spot = none ∧ k.cells.length ≤ l.n ∧ ∃ cs t, w.heap[l.base.block]? = some (.cells cs t (0, 0)) ∧ l.base.off + l.n ≤ cs.size
  inj : ∀ b b' l l' k k', b ≠ b' → ρ b = some l → ρ b' = some l' → G b = some k → G b' = some k' → k.st = .own → k'.st ≠ .dead → (k'.st = .own ∨ k'.cells ≠ []) → l.base.block ≠ l'.base.block

structure Stp (n n' : Nat) (ρ : Rho) (G : Hp) (w : World) (ρ' : Rho) (G' : Hp) (w' : World) : Prop where
  le : n ≤ n'
  ext : ∀ b, b < n ∨ n' ≤ b → ρ' b = ρ b
  keep : ∀ b, b < n → ρ b = none → G' b = G b
  old : ∀ b k', b < n → G' b = some k' → k'.st ≠ .dead → ∃ k, G b = some k ∧ k.st = k'.st ∧ k.cells.length = k'.cells.length
  newb : ∀ b l, n ≤ b → b < n' → ρ' b = some l → w.heap.size ≤ l.base.block ∨ ∃ b0 l0 k0, ρ b0 = some l0 ∧ G b0 = some k0 ∧ k0.st = .own ∧ l0.base.block = l.base.block
  frame : ∀ g, g < w.heap.size → (∀ b l k, ρ b = some l → G b = some k → k.st = .own → l.base.block ≠ g) → w'.heap[g]? = w.heap[g]?
  size : w.heap.size ≤ w'.heap.size
  os : w'.os = w.os
  tape : w'.tape = w.tape
  output : w'.output = w.output

theorem cell?_congr {w w' : World} {a : Addr} (h : w'.heap[a.block]? = w.heap[a.block]?) : w'.cell? a = w.cell? a := by
  unfold World.cell?; rw [h]
theorem cell?_lt {w : World} {a : Addr} {v : Value} (h : w.cell? a = some v) : a.block < w.heap.size := by
  unfold World.cell? at h
  split at h
  · rename_i h'; exact (Array.getElem?_eq_some_iff.1 h').1
  · cases h
theorem add_block (a : Addr) (n : Nat) : (a.add n).block = a.block := by unfold Addr.add; split <;> rfl
theorem add_add (a : Addr) (n m : Nat) : (a.add n).add m = a.add (n + m) := by
  unfold Addr.add
  by_cases hn : n = 0 <;> by_cases hm : m = 0 <;> simp [hn, hm]
  omega
theorem add_zero (a : Addr) : a.add 0 = a := by simp [Addr.add]
theorem add_plain {a : Addr} (h : a.spot = none) (n : Nat) : a.add n = ⟨a.block, a.off + n, none⟩ := by
  unfold Addr.add
  split
  · rename_i hn; subst hn; cases a; simp_all
  · rfl

theorem HR.world {ρ : Rho} {G : Hp} {w w' : World} (h : HR ρ G w) (hw : w'.heap = w.heap) : HR ρ G w' :=
  ⟨fun b l k a c d i v e => by obtain ⟨v', h1, h2⟩ := h.cell b l k a c d i v e; exact ⟨v', (cell?_congr (w := w) (w' := w') (by rw [hw])).trans h1, h2⟩,
   fun b l k a c d => by rw [hw]; exact h.own b l k a c d, h.inj⟩

theorem HR.sub {ρ : Rho} {G G' : Hp} {w : World} (h : HR ρ G w) (hg : ∀ b k, G' b = some k → G b = some k) : HR ρ G' w :=
  ⟨fun b l k a c d => h.cell b l k a (hg _ _ c) d, fun b l k a c d => h.own b l k a (hg _ _ c) d,
   fun b b' l l' k k' hne a a' c c' d => h.inj b b' l l' k k' hne a a' (hg _ _ c) (hg _ _ c') d⟩

/-- What is mapped and not dead lies in the world. -/
theorem HR.block_lt {ρ : Rho} {G : Hp} {w : World} (h : HR ρ G w) {b : Nat} {l : Loc} {k : Blk} (hb : ρ b = some l) (hk : G b = some k) (hd : k.st ≠ .dead)
    (hn : k.st = .own ∨ k.cells ≠ []) : l.base.block < w.heap.size := by
  by_cases ho : k.st = .own
  · obtain ⟨_, _, cs, t, hh, _⟩ := h.own b l k hb hk ho
    exact (Array.getElem?_eq_some_iff.1 hh).1
  · have hc : k.cells ≠ [] := hn.resolve_left ho
    obtain ⟨v, vs, hv⟩ := List.exists_cons_of_ne_nil hc
    obtain ⟨v', h1, _⟩ := h.cell b l k hb hk hd 0 v (by simp [hv])
    rw [add_zero] at h1
    exact cell?_lt h1

theorem HR.target {ρ ρ' : Rho} {G G' : Hp} {w w' : World} (h : HR ρ G w) (hs : Sub ρ ρ') (T : Nat) (lt : Loc) (kt : Blk)
    (hT : ρ' T = some lt) (gT : G' T = some kt)
    (hcell : ∀ (i : Nat) (v : Value), kt.cells[i]? = some v → ∃ v', w'.cell? (lt.base.add i) = some v' ∧ VR ρ' v v')
    (hown : lt.base.spot = none ∧ kt.cells.length ≤ lt.n ∧ ∃ cs t, w'.heap[lt.base.block]? = some (.cells cs t (0, 0)) ∧ lt.base.off + lt.n ≤ cs.size)
    (hold : ∀ c l k, c ≠ T → ρ' c = some l → G' c = some k → k.st ≠ .dead → ρ c = some l ∧ G c = some k ∧ ((k.st = .own ∨ k.cells ≠ []) → l.base.block ≠ lt.base.block))
    (hw : ∀ g, g ≠ lt.base.block → g < w.heap.size → w'.heap[g]? = w.heap[g]?) : HR ρ' G' w' := by
  refine ⟨?_, ?_, ?_⟩
  · intro b l k hb hk hd i v hv
    by_cases hbT : b = T
    · subst hbT
      rw [hT] at hb; cases hb
      rw [gT] at hk; cases hk
      exact hcell i v hv
    · obtain ⟨h1, h2, h3⟩ := hold b l k hbT hb hk hd
      have hne := h3 (.inr (by intro e; simp [e] at hv))
      obtain ⟨v', hc, hr⟩ := h.cell b l k h1 h2 hd i v hv
      have hlt := cell?_lt hc
      rw [add_block] at hlt
      refine ⟨v', ?_, hr.mono hs⟩
      rw [cell?_congr (w := w) (by rw [add_block]; exact hw _ hne hlt)]
      exact hc
  · intro b l k hb hk ho
    by_cases hbT : b = T
    · subst hbT
      rw [hT] at hb; cases hb
      rw [gT] at hk; cases hk
      exact hown
    · obtain ⟨h1, h2, h3⟩ := hold b l k hbT hb hk (by rw [ho]; simp)
      have hne := h3 (.inl ho)
      obtain ⟨ha, hb', cs, t, hh, hsz⟩ := h.own b l k h1 h2 ho
      exact ⟨ha, hb', cs, t, by rw [hw _ hne (Array.getElem?_eq_some_iff.1 hh).1]; exact hh, hsz⟩
  · intro b b' l l' k k' hne hb hb' hk hk' ho hd hn
    by_cases hbT : b = T
    · subst hbT
      rw [hT] at hb; cases hb
      obtain ⟨h1, h2, h3⟩ := hold b' l' k' (Ne.symm hne) hb' hk' hd
      exact (h3 hn).symm
    · obtain ⟨h1, h2, h3⟩ := hold b l k hbT hb hk (by rw [ho]; simp)
      by_cases hbT' : b' = T
      · subst hbT'
        rw [hT] at hb'; cases hb'
        exact h3 (.inl ho)
      · obtain ⟨h1', h2', h3'⟩ := hold b' l' k' hbT' hb' hk' hd
        exact h.inj b b' l l' k k' hne h1 h1' h2 h2' ho hd hn

theorem Stp.st {n n' : Nat} {ρ ρ' : Rho} {G G' : Hp} {w w' : World} (h : Stp n n' ρ G w ρ' G' w') : ∀ b k', b < n → G' b = some k' → k'.st = .own → ∃ k, G b = some k ∧ k.st = .own := by
  intro b k' hb hk ho
  obtain ⟨k, h1, h2, _⟩ := h.old b k' hb hk (by rw [ho]; simp)
  exact ⟨k, h1, h2.trans ho⟩

theorem Stp.refl (n : Nat) (ρ : Rho) (G : Hp) (w : World) : Stp n n ρ G w ρ G w :=
  ⟨Nat.le_refl _, fun _ _ => rfl, fun _ _ _ => rfl, fun _ k' _ h _ => ⟨k', h, rfl, rfl⟩, fun b _ h1 h2 => by omega, fun _ _ _ => rfl, Nat.le_refl _, rfl, rfl, rfl⟩

theorem Stp.world {n n' : Nat} {ρ ρ' : Rho} {G G' : Hp} {w w' w'' : World} (h : Stp n n' ρ G w ρ' G' w') (h1 : w''.heap = w'.heap) (h2 : w''.os = w'.os) (h3 : w''.tape = w'.tape) (h4 : w''.output = w'.output) :
    Stp n n' ρ G w ρ' G' w'' :=
  ⟨h.le, h.ext, h.keep, h.old, h.newb, fun g a b => by rw [h1]; exact h.frame g a b, by rw [h1]; exact h.size, h2.trans h.os, h3.trans h.tape, h4.trans h.output⟩

theorem Stp.sub {n n' : Nat} {ρ ρ' : Rho} {G G' : Hp} {w w' : World} (h : Stp n n' ρ G w ρ' G' w') (hf : ∀ b, n ≤ b → b < n' → ρ b = none) : Sub ρ ρ' := by
  intro b l hb
  by_cases h1 : b < n ∨ n' ≤ b
  · rw [h.ext b h1]; exact hb
  · rw [hf b (by omega) (by omega)] at hb; cases hb

theorem Stp.trans {n n1 n2 : Nat} {ρ ρ1 ρ2 : Rho} {G G1 G2 : Hp} {w w1 w2 : World} (h : Stp n n1 ρ G w ρ1 G1 w1) (h' : Stp n1 n2 ρ1 G1 w1 ρ2 G2 w2)
    (hd : ∀ b, n1 ≤ b → G1 b = none) : Stp n n2 ρ G w ρ2 G2 w2 := by
  have hle := h.le
  have hle' := h'.le
  refine ⟨Nat.le_trans hle hle', ?_, ?_, ?_, ?_, ?_, Nat.le_trans h.size h'.size, h'.os.trans h.os, h'.tape.trans h.tape, h'.output.trans h.output⟩
  · intro b hb
    rw [h'.ext b (by omega), h.ext b (by omega)]
  · intro b hb hn
    rw [h'.keep b (by omega) (by rw [h.ext b (.inl hb)]; exact hn)]
    exact h.keep b hb hn
  · intro b k' hb hk ho
    obtain ⟨k1, hk1, ho1, hl1⟩ := h'.old b k' (by omega) hk ho
    obtain ⟨k, hk2, ho2, hl2⟩ := h.old b k1 hb hk1 (by rw [ho1]; exact ho)
    exact ⟨k, hk2, ho2.trans ho1, hl2.trans hl1⟩
  · intro b l hb1 hb2 hl
    by_cases hb : b < n1
    · rw [h'.ext b (.inl hb)] at hl
      exact h.newb b l hb1 hb hl
    · rcases h'.newb b l (by omega) hb2 hl with hz | ⟨b0, l0, k0, hb0, hk0, ho0, he⟩
      · exact .inl (Nat.le_trans h.size hz)
      · have hlt : b0 < n1 := by
          rcases Nat.lt_or_ge b0 n1 with h1 | h1
          · exact h1
          · rw [hd b0 h1] at hk0; cases hk0
        by_cases hb0n : b0 < n
        · obtain ⟨k, hk, ho⟩ := h.st b0 k0 hb0n hk0 ho0
          exact .inr ⟨b0, l0, k, by rw [← h.ext b0 (.inl hb0n)]; exact hb0, hk, ho, he⟩
        · rcases h.newb b0 l0 (by omega) hlt hb0 with hz | ⟨b3, l3, k3, a1, a2, a3, a4⟩
          · exact .inl (by rw [← he]; exact hz)
          · exact .inr ⟨b3, l3, k3, a1, a2, a3, a4.trans he⟩
  · intro g hg hf
    rw [h'.frame g (Nat.lt_of_lt_of_le hg h.size) ?_, h.frame g hg hf]
    intro b l k hb hk ho he
    have hlt : b < n1 := by
      rcases Nat.lt_or_ge b n1 with h1 | h1
      · exact h1
      · rw [hd b h1] at hk; cases hk
    by_cases hbn : b < n
    · obtain ⟨k0, hk0, ho0⟩ := h.st b k hbn hk ho
      exact hf b l k0 (by rw [← h.ext b (.inl hbn)]; exact hb) hk0 ho0 he
    · rcases h.newb b l (by omega) hlt hb with hz | ⟨b3, l3, k3, a1, a2, a3, a4⟩
      · omega
      · exact hf b3 l3 k3 a1 a2 a3 (a4.trans he)

end Go.Proofs.Ytdagncfnkenbfaa.AM
/- The abstract machine, third part: operations that only reckon, and operations that read. -/
namespace Go.Proofs.Ytdagncfnkenbfaa.AM
open Go

/-- A run that asks for nothing but the program. -/
def runP {α : Type} (P : Program) : Sem α → Option α
  | .pure a => some a
  | .program k => runP P (k P)
  | _ => none
theorem runP_run {α : Type} {P : Program} {s : Sem α} {a : α} (h : runP P s = some a) (w : World) : s.run P w = .ok a w := by
  induction s with
  | pure x => simp [runP] at h; subst h; rfl
  | program k ih => simp only [runP] at h; simp only [Sem.run]; exact ih P h
  | _ => simp [runP] at h

def szOf (P : Program) (t : TypeId) : Option Nat := (P.info? t).map (·.size)
def zeroOf (P : Program) (t : TypeId) : Option Value := (P.info? t).bind (·.zero)

def isAggT (P : Program) (t : TypeId) : Option Bool := (P.underlying t).map fun | .struct _ | .array _ _ => true | _ => false

theorem run_sizeOf {P : Program} {t n : Nat} (h : szOf P t = some n) (w : World) : (sizeOf t).run P w = .ok n w := by
  unfold szOf at h
  cases hi : P.info? t with
  | none => simp [hi] at h
  | some i => simp [hi] at h; simp [sizeOf, typeInfo, hi, h]
theorem run_zero {P : Program} {t : Nat} {v : Value} (h : zeroOf P t = some v) (w : World) : (zeroValue t).run P w = .ok v w := by
  unfold zeroOf at h
  cases hi : P.info? t with
  | none => simp [hi] at h
  | some i => simp [hi] at h; simp [zeroValue, typeInfo, hi, h]
theorem run_und {P : Program} {t : Nat} {d : TypeDesc} (h : P.underlying t = some d) (w : World) : (underlying t).run P w = .ok d w := by
  simp [underlying, h]

theorem run_agg {P : Program} {t : Nat} {b : Bool} (h : isAggT P t = some b) (w : World) : (isAgg t).run P w = .ok b w := by
  unfold isAggT at h
  cases hu : P.underlying t with
  | none => simp [hu] at h
  | some d =>
    simp only [hu, Option.map_some, Option.some.injEq] at h
    subst h
    cases d <;> simp [isAgg, run_und hu]

/-! ### pure operations -/
def aField (P : Program) (t : TypeId) (x : Value) (f : Nat) : Option Value :=
  match P.underlying t, x with
  | some (.struct fs), .agg cs =>
    match fs[f]? with
    | some fd =>
      match isAggT P fd.type with
      | some true => (szOf P fd.type).map fun n => .agg (cs.extract fd.offset (fd.offset + n))
      | some false => cs[fd.offset]?
      | none => none
    | none => none
  | _, _ => none

def aFieldAddr (P : Program) (t : TypeId) (x : Value) (f : Nat) : Option Value :=
  match P.underlying t, x with
  | some (.struct fs), .pointer (some ⟨b, o, none⟩) =>
    match fs[f]? with
    | some fd =>
      match szOf P fd.type with
      | some (_ + 1) => some (.pointer (some ⟨b, o + fd.offset, none⟩))
      | _ => none
    | none => none
  | _, _ => none

def aIndexAddr (P : Program) (t : TypeId) (x i : Value) : Option Value :=
  match P.underlying t, x, i with
  | some (.slice e), .slice (some ⟨b, o, none⟩) n _, .int _ j =>
    match szOf P e with
    | some s => if 0 ≤ j ∧ j < n then some (.pointer (some ⟨b, o + j.toNat * s, none⟩)) else none
    | none => none
  | _, _, _ => none

def optInt (d : Int) : Option Value → Option Int
  | none => some d
  | some (.int _ j) => some j
  | _ => none

def aSlice (P : Program) (t : TypeId) (x : Value) (lo hi : Option Value) : Option Value :=
  match P.underlying t, x with
  | some .string, .string s =>
    match optInt 0 lo, optInt s.size hi with
    | some l, some h => if 0 ≤ l ∧ l ≤ h ∧ h ≤ s.size then some (.string (s.extract l.toNat h.toNat)) else none
    | _, _ => none
  | some (.slice e), .slice (some ⟨b, o, none⟩) n c =>
    match optInt 0 lo, optInt n hi, szOf P e with
    | some l, some h, some s => if (0 ≤ l ∧ l ≤ h ∧ h ≤ n) ∧ c = s then some (.slice (some ⟨b, o + l.toNat * s, none⟩) (h.toNat - l.toNat) s) else none
    | _, _, _ => none
  | some (.slice e), .slice none n _ =>
    match optInt 0 lo, optInt n hi, szOf P e with
    | some l, some h, some _ => if 0 ≤ l ∧ l ≤ h ∧ h ≤ n then some (.slice none 0 0) else none
    | _, _, _ => none
  | _, _ => none

def aPlaces (P : Program) (fs : Array Field) : Option (Array (Nat × Nat)) := fs.mapM fun f => (szOf P f.type).map fun s => (f.offset, s)

def aBuild (P : Program) (t : TypeId) (parts : Array (Nat × Value)) : Option Value :=
  match P.underlying t, zeroOf P t with
  | some (.struct fs), some z =>
    if closed z then
      match aPlaces P fs with
      | some places => (Instr.fill (places[·]?) z.cells parts.toList).map fun cs => .agg cs
      | none => none
    else none
  | _, _ => none

def aLen (P : Program) (ts : Array TypeId) (xs : Array Value) : Option Value :=
  match (ts[0]? : Option TypeId), (xs[0]? : Option Value) with
  | some t, some (.slice _ n _) => match P.underlying t with | some (.slice _) => some (.int .i64 n) | _ => none
  | some t, some (.string s) => match P.underlying t with | some .string => some (.int .i64 s.size) | _ => none
  | _, _ => none

def aCap (P : Program) (ts : Array TypeId) (xs : Array Value) : Option Value :=
  match (ts[0]? : Option TypeId), (xs[0]? : Option Value) with
  | some t, some (.slice none _ _) => match P.underlying t with | some (.slice _) => some (.int .i64 0) | _ => none
  | _, _ => none

def aMax2 : Value → Value → Option Value
  | .int k x, .int _ y => some (.int k (if y > x then y else x))
  | _, _ => none
def aMin2 : Value → Value → Option Value
  | .int k x, .int _ y => some (.int k (if y < x then y else x))
  | _, _ => none
def aFold (f : Value → Value → Option Value) : Value → List Value → Option Value
  | x, [] => some x
  | x, y :: r => (f x y).bind fun z => aFold f z r

def told (x : Option Value) : Option Value := match x with | some v => if scal1 v then some v else none | none => none
theorem told_some {x : Option Value} {v : Value} (h : told x = some v) : x = some v ∧ scal1 v = true := by
  unfold told at h
  split at h
  · split at h
    · cases h; exact ⟨rfl, by assumption⟩
    · cases h
  · cases h
theorem scal1_refl {ρ : Rho} {v : Value} (h : scal1 v = true) : VR ρ v v := by
  cases v <;> simp [scal1] at h <;> constructor
def aMost (f : Value → Value → Option Value) (l : List Value) : Option Value :=
  match l with
  | [] => none
  | x :: r => if (x :: r).all scal1 then told (aFold f x r) else none

def aBin (P : Program) (op : BinOp) (t : TypeId) (x y : Operand) (a b : Value) : Option Value :=
  if scal a && scal b then told (runP P (do eqGuard op t x y a b; binOp op t a b)) else none
def aUn (P : Program) (op : UnOp) (a : Value) : Option Value := if scal a then told (runP P (Op.unary op a)) else none
def aIndex (P : Program) (t : TypeId) (a i : Value) : Option Value := if scal1 a && scal1 i then told (runP P (Instr.index t a i)) else none

/-- What an operation that only reckons comes to. -/
def aPure (P : Program) (ev : Operand → Value) : Op → Option Value
  | .move x | .assign x => some (ev x)
  | .pick c a b => match ev c with | .bool t => some (if t then ev a else ev b) | _ => none
  | .nilCheck x => match ev x with | .pointer (some a) => some (.pointer (some a)) | _ => none
  | .binOp op t x y _ => aBin P op t x y (ev x) (ev y)
  | .unOp op _ x => aUn P op (ev x)
  | .extract t i => match ev t with | .tuple vs => vs[i]? | _ => none
  | .field t x f => aField P t (ev x) f
  | .build t ps => aBuild P t (ps.map fun (i, x) => (i, ev x))
  | .fieldAddr t x f => aFieldAddr P t (ev x) f
  | .indexAddr t x i => aIndexAddr P t (ev x) (ev i)
  | .index t x i => aIndex P t (ev x) (ev i)
  | .slice t x lo hi none => aSlice P t (ev x) (lo.map ev) (hi.map ev)
  | .makeFunc fn first cap => some (.func fn (first.map ev) (cap.map ev))
  | .call ⟨.builtin .len, xs, ts⟩ => aLen P ts (xs.map ev)
  | .call ⟨.builtin .cap, xs, ts⟩ => aCap P ts (xs.map ev)
  | .call ⟨.builtin .max, xs, _⟩ => aMost aMax2 (xs.toList.map ev)
  | .call ⟨.builtin .min, xs, _⟩ => aMost aMin2 (xs.toList.map ev)
  | _ => none

/-- Operands that may stand in code: constants are closed, no package-level variables. -/
def opdOk : Operand → Bool
  | .const v => closed v
  | .global _ => false
  | _ => true

theorem VL.array_map {ρ : Rho} {ev ev' : Operand → Value} (h : ∀ x, opdOk x = true → VR ρ (ev x) (ev' x)) (xs : Array Operand) (hx : xs.all opdOk = true) :
    VL ρ (xs.map ev).toList (xs.map ev').toList := by
  rw [VL.iff_array]
  refine ⟨by simp, fun i h1 h2 => ?_⟩
  simp only [Array.getElem_map]
  exact h _ ((Array.all_eq_true.1 hx) i (by simpa using h1))

theorem VR.opt {ρ : Rho} {ev ev' : Operand → Value} (h : ∀ x, opdOk x = true → VR ρ (ev x) (ev' x)) {x : Option Operand} (hx : x.all opdOk = true) {d j : Int} (hj : optInt d (x.map ev) = some j) :
    (x = none ∧ j = d) ∨ ∃ y k, x = some y ∧ ev' y = .int k j := by
  cases x with
  | none => simp [optInt] at hj; exact .inl ⟨rfl, hj.symm⟩
  | some y =>
    right
    have := h y (by simpa using hx)
    cases hy : ev y <;> simp [optInt, hy] at hj
    subst hj
    rw [hy] at this
    generalize hz : ev' y = z at this
    cases this
    exact ⟨y, _, rfl, hz⟩

theorem fill_rel {ρ : Rho} (place : Nat → Option (Nat × Nat)) : ∀ (ps ps' : List (Nat × Value)) (cs cs' r : Array Value), VL ρ cs.toList cs'.toList → ps.length = ps'.length →
    (∀ (i : Nat) p p', ps[i]? = some p → ps'[i]? = some p' → p.1 = p'.1 ∧ VR ρ p.2 p'.2) → Instr.fill place cs ps = some r → ∃ r', Instr.fill place cs' ps' = some r' ∧ VL ρ r.toList r'.toList
  | [], [], cs, cs', r, hc, _, _, h => by
    simp [Instr.fill] at h ⊢; subst h; exact hc
  | [], _ :: _, _, _, _, _, hl, _, _ => by simp at hl
  | _ :: _, [], _, _, _, _, hl, _, _ => by simp at hl
  | (i, v) :: ps, (i', v') :: ps', cs, cs', r, hc, hl, hp, h => by
    obtain ⟨hi, hv⟩ := hp 0 (i, v) (i', v') rfl rfl
    simp only at hi hv
    subst hi
    simp only [Instr.fill] at h ⊢
    cases hpl : place i with
    | none => simp [hpl] at h
    | some p =>
      obtain ⟨off, size⟩ := p
      simp only [hpl] at h ⊢
      have hvc := hv.cells
      have hsz : v'.cells.size = v.cells.size := by simpa using hvc.1.symm
      have hcz : cs'.size = cs.size := by simpa using hc.1.symm
      rw [hsz, hcz]
      by_cases hbad : v.cells.size ≠ size ∨ off + v.cells.size > cs.size
      · rw [if_pos (by simpa using hbad)] at h; simp at h
      · rw [if_neg (by simpa using hbad)] at h ⊢
        refine fill_rel place ps ps' _ _ r ?_ (by simpa using hl) (fun j p p' a b => hp (j + 1) p p' (by simpa using a) (by simpa using b)) h
        -- the fold of sets
        have key : ∀ (xs ys : List Value) (n : Nat) (c c' : Array Value), VL ρ xs ys → VL ρ c.toList c'.toList →
            VL ρ ((xs.zipIdx n).foldl (fun cs (x : Value × Nat) => cs.setIfInBounds (off + x.2) x.1) c).toList ((ys.zipIdx n).foldl (fun cs (x : Value × Nat) => cs.setIfInBounds (off + x.2) x.1) c').toList := by
          intro xs
          induction xs with
          | nil =>
            intro ys n c c' h1 h2
            cases ys with
            | nil => exact h2
            | cons y ys => exact absurd h1.1 (by simp)
          | cons x xs ih =>
            intro ys n c c' h1 h2
            cases ys with
            | nil => exact absurd h1.1 (by simp)
            | cons y ys =>
              simp only [List.zipIdx_cons, List.foldl_cons]
              refine ih ys (n + 1) _ _ ⟨by simpa using h1.1, fun j a b e f => h1.2 (j + 1) a b (by simpa using e) (by simpa using f)⟩ ?_
              simp only [Array.toList_setIfInBounds]
              exact h2.set (h1.2 0 x y rfl rfl) _
        have e : ∀ (zs c : Array Value), zs.zipIdx.foldl (fun cs (x : Value × Nat) => cs.setIfInBounds (off + x.2) x.1) c = zs.toList.zipIdx.foldl (fun cs (x : Value × Nat) => cs.setIfInBounds (off + x.2) x.1) c := by
          intro zs c
          rw [← Array.foldl_toList, Array.toList_zipIdx]
        have := key v.cells.toList v'.cells.toList 0 cs cs' hvc hc
        rw [← e, ← e] at this
        exact this

end Go.Proofs.Ytdagncfnkenbfaa.AM
/- The abstract machine, fourth part: what an operation that only reckons comes to, the model's comes to. -/
namespace Go.Proofs.Ytdagncfnkenbfaa.AM
open Go

section
variable {P : Program} {ρ : Rho}

theorem field_sound {t f : Nat} {x x' v : Value} (hx : VR ρ x x') (h : aField P t x f = some v) : ∃ v', VR ρ v v' ∧ ∀ w, (Instr.field t x' f).run P w = .ok v' w := by
  unfold aField at h
  split at h
  case h_2 => cases h
  rename_i fs cs hu
  cases hx with
  | @agg _ cs' hs hc =>
    have hcl : VL ρ cs.toList cs'.toList := VL.iff_array.2 ⟨hs, hc⟩
    split at h
    case h_2 => cases h
    rename_i fd hfd
    split at h
    · rename_i ha
      simp only [Option.map_eq_some_iff] at h
      obtain ⟨n, hn, rfl⟩ := h
      refine ⟨.agg (cs'.extract fd.offset (fd.offset + n)), VR.aggL ?_, fun w => ?_⟩
      · simpa [Array.toList_extract, List.extract_eq_take_drop] using (hcl.drop fd.offset).take n
      · simp [Instr.field, run_und hu, hfd, asAgg, part, run_agg ha, run_sizeOf hn]
    · rename_i ha
      obtain ⟨v', hv', hr⟩ := hcl.get (i := fd.offset) (by simpa using h)
      have hv'' : cs'[fd.offset]? = some v' := by simpa using hv'
      refine ⟨v', hr, fun w => ?_⟩
      simp [Instr.field, run_und hu, hfd, asAgg, part, run_agg ha, hv'']
    · cases h

theorem fieldAddr_sound {t f : Nat} {x x' v : Value} (hx : VR ρ x x') (h : aFieldAddr P t x f = some v) : ∃ v', VR ρ v v' ∧ ∀ w, (Instr.fieldAt t x' f).run P w = .ok v' w := by
  unfold aFieldAddr at h
  split at h
  case h_2 => cases h
  rename_i fs b o hu
  cases hx with
  | @ptr _ _ l hl =>
    split at h
    case h_2 => cases h
    rename_i fd hfd
    split at h
    · rename_i n hn
      cases h
      refine ⟨.pointer (some (l.base.add (o + fd.offset))), .ptr hl, fun w => ?_⟩
      simp [Instr.fieldAt, run_und hu, hfd, Instr.sureAddr, fieldPlace, run_sizeOf hn, add_add]
    · cases h

theorem indexAddr_sound {t : Nat} {x x' i i' v : Value} (hx : VR ρ x x') (hi : VR ρ i i') (h : aIndexAddr P t x i = some v) : ∃ v', VR ρ v v' ∧ ∀ w, (Instr.indexAt t x' i').run P w = .ok v' w := by
  unfold aIndexAddr at h
  split at h
  case h_2 => cases h
  rename_i e b o n c k j hu
  cases hi
  cases hx with
  | @sl _ _ _ _ c' a l hn hl hor =>
    split at h
    case h_2 => cases h
    rename_i s hs
    split at h
    case isFalse => cases h
    rename_i hj
    cases h
    rcases hor with h0 | ⟨rfl, _⟩
    · omega
    · refine ⟨.pointer (some (l.base.add (o + j.toNat * s))), .ptr hl, fun w => ?_⟩
      simp [Instr.indexAt, asIntOf, run_und hu, hj, run_sizeOf hs, add_add]

theorem len_sound {ts : Array TypeId} {ty : TypeId} {xs xs' : Array Value} {v : Value} (hx : VL ρ xs.toList xs'.toList) (h : aLen P ts xs = some v) : ∃ v', VR ρ v v' ∧ ∀ w, (Builtin.len_ ts ty xs').run P w = .ok v' w := by
  unfold aLen at h
  split at h
  · rename_i t a n c ht hs
    split at h
    case h_2 => cases h
    rename_i e hu
    cases h
    obtain ⟨x', hx', hr⟩ := hx.get (i := 0) (by simpa using hs)
    have hx'' : xs'[0]? = some x' := by simpa using hx'
    refine ⟨_, .int _ _, fun w => ?_⟩
    cases hr <;> simp [Builtin.len_, ht, hx'', run_und hu, goInt]
  · rename_i t s ht hs
    split at h
    case h_2 => cases h
    rename_i hu
    cases h
    obtain ⟨x', hx', hr⟩ := hx.get (i := 0) (by simpa using hs)
    have hx'' : xs'[0]? = some x' := by simpa using hx'
    refine ⟨_, .int _ _, fun w => ?_⟩
    cases hr
    simp [Builtin.len_, ht, hx'', run_und hu, goInt]
  · cases h

theorem cap_sound {ts : Array TypeId} {ty : TypeId} {xs xs' : Array Value} {v : Value} (hx : VL ρ xs.toList xs'.toList) (h : aCap P ts xs = some v) : ∃ v', VR ρ v v' ∧ ∀ w, (Builtin.cap_ ts ty xs').run P w = .ok v' w := by
  unfold aCap at h
  split at h
  · rename_i t n c ht hs
    split at h
    case h_2 => cases h
    rename_i e hu
    cases h
    obtain ⟨x', hx', hr⟩ := hx.get (i := 0) (by simpa using hs)
    have hx'' : xs'[0]? = some x' := by simpa using hx'
    refine ⟨_, .int _ _, fun w => ?_⟩
    cases hr
    simp [Builtin.cap_, ht, hx'', run_und hu, goInt]
  · cases h

theorem fold_max : ∀ (xs : List Value) (x : Value) {v : Value}, aFold aMax2 x xs = some v → (∀ w, (xs.foldlM Builtin.max2 x).run P w = .ok v w)
  | [], x, v, h => by simp [aFold] at h; subst h; intro w; simp
  | y :: r, x, v, h => by
    simp only [aFold, Option.bind_eq_some_iff] at h
    obtain ⟨z, hz, hr⟩ := h
    intro w
    have : (Builtin.max2 x y).run P w = .ok z w := by
      unfold aMax2 at hz
      split at hz
      · cases hz; simp [Builtin.max2]
      · cases hz
    simp only [List.foldlM_cons, Sem.run_bind, this, Result.andThen_ok]
    exact fold_max r z hr w
theorem fold_min : ∀ (xs : List Value) (x : Value) {v : Value}, aFold aMin2 x xs = some v → (∀ w, (xs.foldlM Builtin.min2 x).run P w = .ok v w)
  | [], x, v, h => by simp [aFold] at h; subst h; intro w; simp
  | y :: r, x, v, h => by
    simp only [aFold, Option.bind_eq_some_iff] at h
    obtain ⟨z, hz, hr⟩ := h
    intro w
    have : (Builtin.min2 x y).run P w = .ok z w := by
      unfold aMin2 at hz
      split at hz
      · cases hz; simp [Builtin.min2]
      · cases hz
    simp only [List.foldlM_cons, Sem.run_bind, this, Result.andThen_ok]
    exact fold_min r z hr w
end
end Go.Proofs.Ytdagncfnkenbfaa.AM
/- The abstract machine, fifth part: cuts, structs that are built, and all operations that only reckon. -/
namespace Go.Proofs.Ytdagncfnkenbfaa.AM
open Go

section
variable {P : Program} {ρ : Rho}

theorem run_bound {k : IntKind} {j : Int} {y : Nat} (c : BoundsCode) (h0 : 0 ≤ j) (h1 : j ≤ y) (w : World) : (Instr.sliceBound (.int k j) y c).run P w = .ok j.toNat w := by
  simp [Instr.sliceBound, asIntOf, h0, h1]

theorem run_bounds {is : Bool} {len cap : Nat} {lo' hi' : Option Value} {l h : Int} (hl : lo' = none ∧ l = 0 ∨ ∃ k, lo' = some (.int k l)) (hh : hi' = none ∧ h = len ∨ ∃ k, hi' = some (.int k h))
    (h0 : 0 ≤ l) (h1 : l ≤ h) (h2 : h ≤ len) (hc : len ≤ cap) (w : World) : (Instr.sliceBounds is len cap lo' hi' none).run P w = .ok (l.toNat, h.toNat, cap) w := by
  have e2 : ∀ c, ∀ k, (Instr.sliceBound (.int k l) h.toNat c).run P w = .ok l.toNat w := fun c k => run_bound c h0 (by omega) w
  have e3 : ∀ c, ∀ k, (Instr.sliceBound (.int k h) cap c).run P w = .ok h.toNat w := fun c k => run_bound c (by omega) (by omega) w
  rcases hl with ⟨rfl, rfl⟩ | ⟨k, rfl⟩ <;> rcases hh with ⟨rfl, rfl⟩ | ⟨k', rfl⟩
  · simp [Instr.sliceBounds]
  · simp [Instr.sliceBounds, e3]
  · have e4 : ∀ c, ∀ k, (Instr.sliceBound (.int k l) len c).run P w = .ok l.toNat w := fun c k => run_bound c h0 (by omega) w
    simp [Instr.sliceBounds, e4]
  · simp [Instr.sliceBounds, e2, e3]

theorem opt_form {ev ev' : Operand → Value} (h : ∀ x, opdOk x = true → VR ρ (ev x) (ev' x)) {x : Option Operand} (hx : x.all opdOk = true) {d j : Int} (hj : optInt d (x.map ev) = some j) :
    x.map ev' = none ∧ j = d ∨ ∃ k, x.map ev' = some (.int k j) := by
  rcases VR.opt h hx hj with ⟨rfl, rfl⟩ | ⟨y, k, rfl, e⟩
  · exact .inl ⟨rfl, rfl⟩
  · exact .inr ⟨k, by simp [e]⟩

theorem slice_sound {t : Nat} {x x' v : Value} {ev ev' : Operand → Value} (hev : ∀ x, opdOk x = true → VR ρ (ev x) (ev' x)) {lo hi : Option Operand} (hlo : lo.all opdOk = true) (hhi : hi.all opdOk = true)
    (hx : VR ρ x x') (h : aSlice P t x (lo.map ev) (hi.map ev) = some v) : ∃ v', VR ρ v v' ∧ ∀ w, (Instr.sliceAt t x' (lo.map ev') (hi.map ev') none).run P w = .ok v' w := by
  unfold aSlice at h
  split at h
  · rename_i s hu
    split at h
    case h_2 => cases h
    rename_i l hh hl hhh
    split at h
    case isFalse => cases h
    rename_i hb
    cases h
    cases hx
    have f1 := opt_form hev hlo hl
    have f2 := opt_form hev hhi hhh
    refine ⟨.string (s.extract l.toNat hh.toNat), .string _, fun w => ?_⟩
    have := run_bounds (P := P) (is := false) f1 f2 hb.1 hb.2.1 hb.2.2 (Nat.le_refl _) w
    simp [Instr.sliceAt, Instr.slice, run_und hu, this]
  · rename_i e b o n c hu
    split at h
    case h_2 => cases h
    rename_i l hh s hl hhh hs
    split at h
    case isFalse => cases h
    rename_i hb
    obtain ⟨hb, rfl⟩ := hb
    have f1 := opt_form hev hlo hl
    have f2 := opt_form hev hhi hhh
    cases h
    cases hx with
    | @sl _ _ _ _ c' x lc hn hlc hor =>
      have hr := fun w => run_bounds (P := P) (is := true) f1 f2 hb.1 hb.2.1 hb.2.2 hn w
      refine ⟨.slice (if c' = l.toNat then x else x.map (·.add (l.toNat * c))) (hh.toNat - l.toNat) (c' - l.toNat), .sl (by omega) hlc ?_, fun w => ?_⟩
      · rcases hor with h0 | ⟨rfl, hsz⟩
        · exact .inl (by omega)
        · by_cases he : c' = l.toNat
          · exact .inl (by omega)
          · refine .inr ⟨?_, ?_⟩
            · rw [if_neg he]
              simp [add_add]
            · have : (c' - l.toNat) * c = c' * c - l.toNat * c := Nat.sub_mul _ _ _
              have h2 : l.toNat * c ≤ c' * c := Nat.mul_le_mul_right _ (by omega)
              omega
      · simp [Instr.sliceAt, Instr.slice, run_und hu, hr w, run_sizeOf hs]
  · rename_i e n c hu
    split at h
    case h_2 => cases h
    rename_i l hh s hl hhh hs
    split at h
    case isFalse => cases h
    rename_i hb
    have f1 := opt_form hev hlo hl
    have f2 := opt_form hev hhi hhh
    cases h
    cases hx
    have hr := fun w => run_bounds (P := P) (is := true) f1 f2 hb.1 hb.2.1 hb.2.2 (Nat.le_refl _) w
    have hl0 : l.toNat = 0 := by omega
    have hh0 : hh.toNat = 0 := by omega
    rw [hl0, hh0] at hr
    refine ⟨_, .nils, fun w => ?_⟩
    simp [Instr.sliceAt, Instr.slice, run_und hu, hr w, run_sizeOf hs]
  · cases h
end
end Go.Proofs.Ytdagncfnkenbfaa.AM
/- The abstract machine, sixth part: all operations that only reckon. -/
namespace Go.Proofs.Ytdagncfnkenbfaa.AM
open Go

section
variable {P : Program} {ρ : Rho}

theorem run_mapM_list {α β : Type} (f : α → Sem β) (g : α → Option β) (hfg : ∀ x y, g x = some y → ∀ w, (f x).run P w = .ok y w) :
    ∀ (l : List α) (r : List β), l.mapM g = some r → ∀ w, (l.mapM f).run P w = .ok r w
  | [], r, h, w => by simp at h; subst h; simp
  | x :: l, r, h, w => by
    simp only [List.mapM_cons, Option.bind_eq_bind, Option.bind_eq_some_iff] at h
    obtain ⟨y, hy, ys, hys, hr⟩ := h
    simp at hr
    subst hr
    simp [List.mapM_cons, hfg x y hy w, run_mapM_list f g hfg l ys hys w]
theorem run_mapM {α β : Type} (f : α → Sem β) (g : α → Option β) (hfg : ∀ x y, g x = some y → ∀ w, (f x).run P w = .ok y w) (l : Array α) (r : Array β) (h : l.mapM g = some r) (w : World) : (l.mapM f).run P w = .ok r w := by
  rw [Array.mapM_eq_mapM_toList] at h ⊢
  simp only [Option.map_eq_map, Option.map_eq_some_iff] at h
  obtain ⟨rl, hrl, rfl⟩ := h
  simp [run_mapM_list f g hfg l.toList rl hrl w]

theorem build_sound {t : Nat} {parts parts' : Array (Nat × Value)} {v : Value} (hl : parts.size = parts'.size)
    (hp : ∀ (i : Nat) p p', parts[i]? = some p → parts'[i]? = some p' → p.1 = p'.1 ∧ VR ρ p.2 p'.2) (h : aBuild P t parts = some v) :
    ∃ v', VR ρ v v' ∧ ∀ w, (Instr.build t parts').run P w = .ok v' w := by
  unfold aBuild at h
  split at h
  case h_2 => cases h
  rename_i fs z hu hz
  split at h
  case isFalse => cases h
  rename_i hc
  split at h
  case h_2 => cases h
  rename_i places hpl
  simp only [Option.map_eq_some_iff] at h
  obtain ⟨cs, hf, rfl⟩ := h
  obtain ⟨cs', hf', hr⟩ := fill_rel (ρ := ρ) (places[·]?) parts.toList parts'.toList z.cells z.cells cs (closed_refl hc).cells (by simpa using hl)
    (fun i p p' a b => hp i p p' (by simpa using a) (by simpa using b)) hf
  refine ⟨.agg cs', VR.aggL hr, fun w => ?_⟩
  have hm := run_mapM (P := P) (fun f : Field => do pure (f.offset, ← sizeOf f.type)) (fun f => (szOf P f.type).map fun s => (f.offset, s)) (fun f y hy w => by
    simp only [Option.map_eq_some_iff] at hy
    obtain ⟨s, hs, rfl⟩ := hy
    simp [run_sizeOf hs]) fs places hpl w
  simp only [Instr.build, Sem.run_bind, run_zero hz, Result.andThen_ok, run_und hu, hm, hf', Sem.run_pure]

theorem scal1_list : ∀ {xs ys : List Value}, xs.all scal1 = true → VL ρ xs ys → ys = xs
  | [], [], _, _ => rfl
  | [], _ :: _, _, h => absurd h.1 (by simp)
  | _ :: _, [], _, h => absurd h.1 (by simp)
  | x :: xs, y :: ys, hs, h => by
    simp only [List.all_cons, Bool.and_eq_true] at hs
    have e1 := scal1_eq hs.1 (h.2 0 x y rfl rfl)
    have e2 := scal1_list hs.2 (ys := ys) ⟨by simpa using h.1, fun i a b e f => h.2 (i + 1) a b (by simpa using e) (by simpa using f)⟩
    rw [e1, e2]

theorem pure_sound {ev ev' : Operand → Value} (hev : ∀ x, opdOk x = true → VR ρ (ev x) (ev' x)) {o : Oper} {v : Value} (hok : o.op.operands.all opdOk = true) (h : aPure P ev o.op = some v) :
    ∃ v', VR ρ v v' ∧ ∀ w, (execOp ev' o).run P w = .ok (.value v') w := by
  cases ho : o.op with
  | move x => simp only [ho, aPure, Op.operands] at h hok; cases h; exact ⟨ev' x, hev x (by simpa using hok), fun w => by simp [execOp, ho]⟩
  | assign x => simp only [ho, aPure, Op.operands] at h hok; cases h; exact ⟨ev' x, hev x (by simpa using hok), fun w => by simp [execOp, ho]⟩
  | pick c a b =>
    simp only [ho, aPure, Op.operands] at h hok
    simp at hok
    split at h
    case h_2 => cases h
    rename_i t hc
    have h1 := hev c hok.1
    rw [hc] at h1
    generalize hz : ev' c = z at h1
    cases h1
    cases h
    refine ⟨if t then ev' a else ev' b, ?_, fun w => ?_⟩
    · cases t
      · exact hev b hok.2.2
      · exact hev a hok.2.1
    · simp [execOp, ho, hz, asBool]
  | nilCheck x =>
    simp only [ho, aPure, Op.operands] at h hok
    simp at hok
    split at h
    case h_2 => cases h
    rename_i a hx
    have h1 := hev x hok
    rw [hx] at h1
    cases h
    refine ⟨ev' x, h1, fun w => ?_⟩
    generalize hz : ev' x = z at h1
    cases h1
    simp [execOp, ho, hz]
  | binOp op t x y u =>
    simp only [ho, aPure, Op.operands, aBin] at h hok
    simp at hok
    split at h
    case isFalse => cases h
    rename_i hs
    simp at hs
    have e1 := scal_eq hs.1 (hev x hok.1)
    have e2 := scal_eq hs.2 (hev y hok.2)
    obtain ⟨hr, hv⟩ := told_some h
    refine ⟨v, scal1_refl hv, fun w => ?_⟩
    have := runP_run hr w
    simp only [execOp, ho, e1, e2]
    rw [Sem.run_bind, this]
    rfl
  | unOp op t x =>
    simp only [ho, aPure, Op.operands, aUn] at h hok
    simp at hok
    split at h
    case isFalse => cases h
    rename_i hs
    have e1 := scal_eq hs (hev x hok)
    obtain ⟨hr, hv⟩ := told_some h
    refine ⟨v, scal1_refl hv, fun w => ?_⟩
    have := runP_run hr w
    simp only [execOp, ho, e1]
    rw [Sem.run_bind, this]
    rfl
  | index t x i =>
    simp only [ho, aPure, Op.operands, aIndex] at h hok
    simp at hok
    split at h
    case isFalse => cases h
    rename_i hs
    simp at hs
    have e1 := scal1_eq hs.1 (hev x hok.1)
    have e2 := scal1_eq hs.2 (hev i hok.2)
    obtain ⟨hr, hv⟩ := told_some h
    refine ⟨v, scal1_refl hv, fun w => ?_⟩
    have := runP_run hr w
    simp only [execOp, ho, e1, e2]
    rw [Sem.run_bind, this]
    rfl
  | extract t i =>
    simp only [ho, aPure, Op.operands] at h hok
    simp at hok
    split at h
    case h_2 => cases h
    rename_i vs ht
    have h1 := hev t hok
    rw [ht] at h1
    generalize hz : ev' t = z at h1
    cases h1 with
    | @tuple _ vs' hs hc =>
      obtain ⟨v', hv', hr⟩ := (VL.iff_array.2 ⟨hs, hc⟩).get (i := i) (by simpa using h)
      have hv'' : vs'[i]? = some v' := by simpa using hv'
      exact ⟨v', hr, fun w => by simp [execOp, ho, hz, Instr.extract, hv'']⟩
  | field t x f =>
    simp only [ho, aPure, Op.operands] at h hok
    obtain ⟨v', hr, hw⟩ := field_sound (hev x (by simpa using hok)) h
    exact ⟨v', hr, fun w => by simp [execOp, ho, hw w]⟩
  | fieldAddr t x f =>
    simp only [ho, aPure, Op.operands] at h hok
    obtain ⟨v', hr, hw⟩ := fieldAddr_sound (hev x (by simpa using hok)) h
    exact ⟨v', hr, fun w => by simp [execOp, ho, hw w]⟩
  | indexAddr t x i =>
    simp only [ho, aPure, Op.operands] at h hok
    simp at hok
    obtain ⟨v', hr, hw⟩ := indexAddr_sound (hev x hok.1) (hev i hok.2) h
    exact ⟨v', hr, fun w => by simp [execOp, ho, hw w]⟩
  | build t ps =>
    simp only [ho, aPure, Op.operands] at h hok
    obtain ⟨v', hr, hw⟩ := build_sound (ρ := ρ) (parts' := ps.map fun (i, x) => (i, ev' x)) (by simp) (fun i p p' a b => by
      simp only [Array.getElem?_map, Option.map_eq_some_iff] at a b
      obtain ⟨q, hq, rfl⟩ := a
      obtain ⟨q', hq', rfl⟩ := b
      rw [hq] at hq'
      cases hq'
      refine ⟨rfl, hev _ ?_⟩
      obtain ⟨hi, rfl⟩ := Array.getElem?_eq_some_iff.1 hq
      simp only [List.all_toArray, List.all_map, List.all_eq_true] at hok
      exact hok _ (by simp)) h
    exact ⟨v', hr, fun w => by simp [execOp, ho, hw w]⟩
  | slice t x lo hi mx =>
    cases mx with
    | some m => simp [ho, aPure] at h
    | none =>
      simp only [ho, aPure, Op.operands] at h hok
      have hok2 : opdOk x = true ∧ lo.all opdOk = true ∧ hi.all opdOk = true := by
        cases lo <;> cases hi <;> simp at hok <;> simp [hok]
      obtain ⟨v', hr, hw⟩ := slice_sound hev hok2.2.1 hok2.2.2 (hev x hok2.1) h
      exact ⟨v', hr, fun w => by simp [execOp, ho, hw w]⟩
  | makeFunc fn first cap =>
    simp only [ho, aPure, Op.operands] at h hok
    simp only [Array.all_append, Bool.and_eq_true] at hok
    cases h
    refine ⟨.func fn (first.map ev') (cap.map ev'), ?_, fun w => by simp [execOp, ho, Instr.makeFunc]⟩
    have h1 := VL.iff_array.1 (VL.array_map hev first hok.1)
    have h2 := VL.iff_array.1 (VL.array_map hev cap hok.2)
    exact .func h1.1 h2.1 h1.2 h2.2
  | call c =>
    obtain ⟨callee, xs, ts⟩ := c
    cases callee with
    | builtin b =>
      simp only [ho, Op.operands, Call.operands] at hok
      have hxs : xs.all opdOk = true := by simpa using hok
      have hvl := VL.array_map hev xs hxs
      cases b with
      | len =>
        simp only [ho, aPure] at h
        obtain ⟨v', hr, hw⟩ := len_sound (ty := o.type) hvl h
        exact ⟨v', hr, fun w => by simp [execOp, ho, resolve, invoke, builtin, hw w]⟩
      | cap =>
        simp only [ho, aPure] at h
        obtain ⟨v', hr, hw⟩ := cap_sound (ty := o.type) hvl h
        exact ⟨v', hr, fun w => by simp [execOp, ho, resolve, invoke, builtin, hw w]⟩
      | max =>
        simp only [ho, aPure] at h
        unfold aMost at h
        split at h
        · cases h
        · rename_i x r hl
          split at h
          case isFalse => cases h
          rename_i hs
          obtain ⟨hf, hsv⟩ := told_some h
          have e : (xs.map ev').toList = x :: r := by
            have := scal1_list hs (ys := (xs.map ev').toList) (by rw [← hl]; simpa using hvl)
            exact this
          have hv := fold_max (P := P) r x hf
          refine ⟨v, scal1_refl hsv, fun w => ?_⟩
          simp only [execOp, ho, resolve, invoke, builtin, Builtin.max_, Sem.run_bind, Sem.run_pure, Result.andThen_ok, e, hv w]
      | min =>
        simp only [ho, aPure] at h
        unfold aMost at h
        split at h
        · cases h
        · rename_i x r hl
          split at h
          case isFalse => cases h
          rename_i hs
          obtain ⟨hf, hsv⟩ := told_some h
          have e : (xs.map ev').toList = x :: r := by
            have := scal1_list hs (ys := (xs.map ev').toList) (by rw [← hl]; simpa using hvl)
            exact this
          have hv := fold_min (P := P) r x hf
          refine ⟨v, scal1_refl hsv, fun w => ?_⟩
          simp only [execOp, ho, resolve, invoke, builtin, Builtin.min_, Sem.run_bind, Sem.run_pure, Result.andThen_ok, e, hv w]
      | _ => simp [ho, aPure] at h
    | _ => simp [ho, aPure] at h
  | _ => simp [ho, aPure] at h
end
end Go.Proofs.Ytdagncfnkenbfaa.AM
