/- The abstract machine: equations to reckon with. -/
import Derived.Test.YtdagncfnkenbfaaA5
import Derived.Laws.StructEq
set_option linter.unusedVariables false
set_option linter.unusedSimpArgs false
set_option linter.defProp false
/- The abstract machine: equations to reckon with. -/
namespace Go.Proofs.Ytdagncfnkenbfaa.AM
open Go

/-- What is still to be run, as data. -/
inductive Fr where
  | seq (c : KC)
  | blk (id : Nat)

section
variable {P : Program}

def kK (P : Program) : List Fr → Post → Post
  | [], Q => Q
  | .seq b :: s, Q => fun ex tm H => match ex with | .normal => kW P b tm H (kK P s Q) | ex => kK P s Q ex tm H
  | .blk id :: s, Q => fun ex tm H => match ex with | .exit i => if i = id then kK P s Q .normal tm H else kK P s Q (.exit i) tm H | ex => kK P s Q ex tm H

/-- Run the code 'c' under the frames 's'. -/
def rW (P : Program) (c : KC) (s : List Fr) (Q : Post) (tm : Tm) (H : AH) : Prop := kW P c tm H (kK P s Q)
def rO (P : Program) (l : List KO) (s : List Fr) (Q : Post) (tm : Tm) (H : AH) : Prop := kOps P l tm H (kK P s Q .normal)
def rOV (P : Program) (d : Option Nat) (l : List KO) (s : List Fr) (Q : Post) (tm : Tm) (v : Value) (H : AH) : Prop := rO P l s Q (aput tm d v) H
def rE (P : Program) (ex : Ex) (s : List Fr) (Q : Post) (tm : Tm) (H : AH) : Prop := kK P s Q ex tm H

theorem rE_nil {ex : Ex} {Q : Post} {tm : Tm} {H : AH} : rE P ex [] Q tm H = Q ex tm H := rfl
theorem rE_seq_n {b : KC} {s : List Fr} {Q : Post} {tm : Tm} {H : AH} : rE P .normal (.seq b :: s) Q tm H = rW P b s Q tm H := rfl
theorem rE_seq_r {b : KC} {s : List Fr} {Q : Post} {tm : Tm} {H : AH} : rE P .ret (.seq b :: s) Q tm H = rE P .ret s Q tm H := rfl
theorem rE_seq_e {b : KC} {i : Nat} {s : List Fr} {Q : Post} {tm : Tm} {H : AH} : rE P (.exit i) (.seq b :: s) Q tm H = rE P (.exit i) s Q tm H := rfl
theorem rE_blk_n {id : Nat} {s : List Fr} {Q : Post} {tm : Tm} {H : AH} : rE P .normal (.blk id :: s) Q tm H = rE P .normal s Q tm H := rfl
theorem rE_blk_r {id : Nat} {s : List Fr} {Q : Post} {tm : Tm} {H : AH} : rE P .ret (.blk id :: s) Q tm H = rE P .ret s Q tm H := rfl
theorem rE_blk_e {id i : Nat} {s : List Fr} {Q : Post} {tm : Tm} {H : AH} : rE P (.exit i) (.blk id :: s) Q tm H = if i = id then rE P .normal s Q tm H else rE P (.exit i) s Q tm H := rfl

theorem rW_skip {s : List Fr} {Q : Post} {tm : Tm} {H : AH} : rW P .skip s Q tm H = rE P .normal s Q tm H := rfl
theorem rW_ret {s : List Fr} {Q : Post} {tm : Tm} {H : AH} : rW P .ret s Q tm H = rE P .ret s Q tm H := rfl
theorem rW_exit {i : Nat} {s : List Fr} {Q : Post} {tm : Tm} {H : AH} : rW P (.exit i) s Q tm H = rE P (.exit i) s Q tm H := rfl
theorem rW_ops {l : List KO} {s : List Fr} {Q : Post} {tm : Tm} {H : AH} : rW P (.ops l) s Q tm H = rO P l s Q tm H := rfl
theorem rW_seq {a b : KC} {s : List Fr} {Q : Post} {tm : Tm} {H : AH} : rW P (.seq a b) s Q tm H = rW P a (.seq b :: s) Q tm H := rfl
theorem rW_block {id : Nat} {c : KC} {s : List Fr} {Q : Post} {tm : Tm} {H : AH} : rW P (.block id c) s Q tm H = rW P c (.blk id :: s) Q tm H := rfl

/-- Two ways, of which one is gone. -/
def two (b : Bool) (A B : Prop) : Prop := (b = true → A) ∧ (b = false → B)
theorem two_true {A B : Prop} : two true A B = A := by simp [two]
theorem two_false {A B : Prop} : two false A B = B := by simp [two]

def rC (P : Program) (v : Value) (a b : KC) (s : List Fr) (Q : Post) (tm : Tm) (H : AH) : Prop :=
  match v with | .bool t => two t (rW P a s Q tm H) (rW P b s Q tm H) | _ => False
theorem rC_bool {t : Bool} {a b : KC} {s : List Fr} {Q : Post} {tm : Tm} {H : AH} : rC P (.bool t) a b s Q tm H = two t (rW P a s Q tm H) (rW P b s Q tm H) := rfl
theorem rW_cond {c : Operand} {a b : KC} {s : List Fr} {Q : Post} {tm : Tm} {H : AH} : rW P (.cond c a b) s Q tm H = rC P (aev tm c) a b s Q tm H := by
  unfold rW rC two rW
  simp only [kW]
  split <;> simp_all

theorem rO_nil {s : List Fr} {Q : Post} {tm : Tm} {H : AH} : rO P [] s Q tm H = rE P .normal s Q tm H := rfl

/-- One operation. -/
theorem rO_cons {d : Option Nat} {o : Op} {l : List KO} {s : List Fr} {Q : Post} {tm : Tm} {H : AH} : rO P (⟨d, none, o⟩ :: l) s Q tm H = OpW P (aev tm) o H (rOV P d l s Q tm) := by
  simp [rO, kOps, want]
  rfl

/-- A guarded operation: two ways, and in each it is known what the guard is. -/
def oG (P : Program) (v : Value) (g : Nat) (w : Bool) (tm : Tm) (o : Op) (H : AH) (d : Option Nat) (l : List KO) (s : List Fr) (Q : Post) : Prop :=
  match v with
  | .bool b => two b (if w = true then OpW P (aev (aput tm (some g) (.bool true))) o H (rOV P d l s Q (aput tm (some g) (.bool true))) else rO P l s Q (aput (aput tm (some g) (.bool true)) d undef) H)
      (if w = true then rO P l s Q (aput (aput tm (some g) (.bool false)) d undef) H else OpW P (aev (aput tm (some g) (.bool false))) o H (rOV P d l s Q (aput tm (some g) (.bool false))))
  | _ => rO P l s Q (aput tm d undef) H
theorem oG_t {b : Bool} {g : Nat} {tm : Tm} {o : Op} {H : AH} {d : Option Nat} {l : List KO} {s : List Fr} {Q : Post} : oG P (.bool b) g true tm o H d l s Q = two b (OpW P (aev (aput tm (some g) (.bool true))) o H (rOV P d l s Q (aput tm (some g) (.bool true)))) (rO P l s Q (aput (aput tm (some g) (.bool false)) d undef) H) := by
  simp [oG]
theorem oG_f {b : Bool} {g : Nat} {tm : Tm} {o : Op} {H : AH} {d : Option Nat} {l : List KO} {s : List Fr} {Q : Post} : oG P (.bool b) g false tm o H d l s Q = two b (rO P l s Q (aput (aput tm (some g) (.bool true)) d undef) H) (OpW P (aev (aput tm (some g) (.bool false))) o H (rOV P d l s Q (aput tm (some g) (.bool false)))) := by
  simp [oG]
theorem oG_undef {w : Bool} {g : Nat} {tm : Tm} {o : Op} {H : AH} {d : Option Nat} {l : List KO} {s : List Fr} {Q : Post} : oG P undef g w tm o H d l s Q = rO P l s Q (aput tm d undef) H := rfl

theorem aput_self {tm : Tm} {g : Nat} {v : Value} (h : tm g = v) : aput tm (some g) v = tm := by
  funext t
  simp only [aput]
  split
  · rename_i e; subst e; exact h.symm
  · rfl

theorem rO_guard {d : Option Nat} {g : Nat} {w : Bool} {o : Op} {l : List KO} {s : List Fr} {Q : Post} {tm : Tm} {H : AH} : rO P (⟨d, some (g, w), o⟩ :: l) s Q tm H = oG P (tm g) g w tm o H d l s Q := by
  unfold oG
  split
  · rename_i b hb
    unfold rO
    simp only [kOps, want, hb]
    cases b with
    | true =>
      rw [two_true, aput_self hb]
      cases w with
      | true => rfl
      | false => rfl
    | false =>
      rw [two_false, aput_self hb]
      cases w with
      | true => rfl
      | false => rfl
  · rename_i hb
    unfold rO
    simp only [kOps, want]
    split
    · rename_i h
      first | (cases h; done) | (split at h; · (rename_i b hb'; exact (hb b hb').elim); · cases h)
    · rfl

/-! ### one operation, by its kind -/
def oV (x : Option Value) (H : AH) (Φ : Value → AH → Prop) : Prop := match x with | some v => Φ v H | none => False
theorem oV_some {v : Value} {H : AH} {Φ : Value → AH → Prop} : oV (some v) H Φ = Φ v H := rfl
theorem rOV_eq {d : Option Nat} {l : List KO} {s : List Fr} {Q : Post} {tm : Tm} {v : Value} {H : AH} : rOV P d l s Q tm v H = rO P l s Q (aput tm d v) H := rfl

theorem optW_map_V {x : Option Value} {H : AH} {Φ : Value → AH → Prop} : optW (x.map fun v => (v, H)) (fun x => Φ x.1 x.2) = oV x H Φ := by
  cases x <;> rfl

variable {tm : Tm} {H : AH} {Φ : Value → AH → Prop}

theorem oP_move {x : Operand} : OpW P (aev tm) (.move x) H Φ = Φ (aev tm x) H := rfl
theorem oP_assign {x : Operand} : OpW P (aev tm) (.assign x) H Φ = Φ (aev tm x) H := rfl
theorem oP_bin {op : BinOp} {t u : TypeId} {x y : Operand} : OpW P (aev tm) (.binOp op t x y u) H Φ = oV (aBin P op t x y (aev tm x) (aev tm y)) H Φ := optW_map_V
theorem oP_un {op : UnOp} {t : TypeId} {x : Operand} : OpW P (aev tm) (.unOp op t x) H Φ = oV (aUn P op (aev tm x)) H Φ := optW_map_V
theorem oP_index {t : TypeId} {x i : Operand} : OpW P (aev tm) (.index t x i) H Φ = oV (aIndex P t (aev tm x) (aev tm i)) H Φ := optW_map_V
theorem oP_fieldAddr {t : TypeId} {x : Operand} {f : Nat} : OpW P (aev tm) (.fieldAddr t x f) H Φ = oV (aFieldAddr P t (aev tm x) f) H Φ := optW_map_V
theorem oP_field {t : TypeId} {x : Operand} {f : Nat} : OpW P (aev tm) (.field t x f) H Φ = oV (aField P t (aev tm x) f) H Φ := optW_map_V
theorem oP_indexAddr {t : TypeId} {x i : Operand} : OpW P (aev tm) (.indexAddr t x i) H Φ = oV (aIndexAddr P t (aev tm x) (aev tm i)) H Φ := optW_map_V
theorem oP_slice {t : TypeId} {x : Operand} {lo hi : Option Operand} : OpW P (aev tm) (.slice t x lo hi none) H Φ = oV (aSlice P t (aev tm x) (lo.map (aev tm)) (hi.map (aev tm))) H Φ := optW_map_V
theorem oP_load {t : TypeId} {x : Operand} : OpW P (aev tm) (.load t x) H Φ = oV (aLoad P t (aev tm x) H.get) H Φ := optW_map_V
theorem oP_convert {t u : TypeId} {x : Operand} : OpW P (aev tm) (.convert t u x) H Φ = oV (aConv P t u (aev tm x) H.get) H Φ := optW_map_V
def aPick : Value → Value → Value → Option Value
  | .bool t, a, b => some (if t then a else b)
  | _, _, _ => none
theorem aPick_true {a b : Value} : aPick (.bool true) a b = some a := rfl
theorem aPick_false {a b : Value} : aPick (.bool false) a b = some b := rfl
theorem aPick_bool {t x y : Bool} : aPick (.bool t) (.bool x) (.bool y) = some (.bool (bif t then x else y)) := by cases t <;> rfl
theorem oP_pick {c a b : Operand} : OpW P (aev tm) (.pick c a b) H Φ = oV (aPick (aev tm c) (aev tm a) (aev tm b)) H Φ := by
  rw [← optW_map_V]
  simp only [OpW, valCall, aOp, aPure]
  cases aev tm c <;> rfl
def aExtract : Value → Nat → Option Value
  | .tuple vs, i => vs[i]?
  | _, _ => none
theorem aExtract_tup {vs : Array Value} {i : Nat} : aExtract (.tuple vs) i = vs[i]? := rfl
theorem oP_extract {t : Operand} {i : Nat} : OpW P (aev tm) (.extract t i) H Φ = oV (aExtract (aev tm t) i) H Φ := by
  rw [← optW_map_V]
  simp only [OpW, valCall, aOp, aPure]
  cases aev tm t <;> rfl
def aNil : Value → Option Value
  | .pointer (some a) => some (.pointer (some a))
  | _ => none
theorem oP_nilCheck {x : Operand} : OpW P (aev tm) (.nilCheck x) H Φ = oV (aNil (aev tm x)) H Φ := by
  rw [← optW_map_V]
  simp only [OpW, valCall, aOp, aPure, aNil]
  split <;> rename_i h <;> simp_all
theorem oP_build {t : TypeId} {ps : Array (Nat × Operand)} : OpW P (aev tm) (.build t ps) H Φ = oV (aBuild P t (ps.map fun (i, x) => (i, aev tm x))) H Φ := optW_map_V
theorem oP_len {xs : Array Operand} {ts : Array TypeId} : OpW P (aev tm) (.call ⟨.builtin .len, xs, ts⟩) H Φ = oV (aLen P ts (xs.map (aev tm))) H Φ := optW_map_V
theorem oP_cap {xs : Array Operand} {ts : Array TypeId} : OpW P (aev tm) (.call ⟨.builtin .cap, xs, ts⟩) H Φ = oV (aCap P ts (xs.map (aev tm))) H Φ := optW_map_V
theorem oP_max {xs : Array Operand} {ts : Array TypeId} : OpW P (aev tm) (.call ⟨.builtin .max, xs, ts⟩) H Φ = oV (aMost aMax2 (xs.toList.map (aev tm))) H Φ := optW_map_V
theorem oP_min {xs : Array Operand} {ts : Array TypeId} : OpW P (aev tm) (.call ⟨.builtin .min, xs, ts⟩) H Φ = oV (aMost aMin2 (xs.toList.map (aev tm))) H Φ := optW_map_V
theorem oP_makeFunc {f : Fn} {xs ys : Array Operand} : OpW P (aev tm) (.makeFunc f xs ys) H Φ = Φ (.func f (xs.map (aev tm)) (ys.map (aev tm))) H := rfl

/-- An operation that turns the heap. -/
def oS (x : Option AH) (Φ : Value → AH → Prop) : Prop := match x with | some H' => Φ undef H' | none => False
theorem oS_some {H' : AH} : oS (some H') Φ = Φ undef H' := rfl
theorem oP_store {t : TypeId} {a v : Operand} : OpW P (aev tm) (.store t a v) H Φ = oS (aStore P t (aev tm a) (aev tm v) H) Φ := by
  simp only [OpW, valCall, aOp]
  cases aStore P t (aev tm a) (aev tm v) H <;> rfl
def oA (x : Option (Value × AH)) (Φ : Value → AH → Prop) : Prop := match x with | some (v, H') => Φ v H' | none => False
theorem oA_some {v : Value} {H' : AH} : oA (some (v, H')) Φ = Φ v H' := rfl
theorem oP_append {t1 t2 : TypeId} {x y : Operand} : OpW P (aev tm) (.call ⟨.builtin .append, #[x, y], #[t1, t2]⟩) H Φ = oA (aAppend P #[t1, t2] #[aev tm x, aev tm y] H) Φ := by
  simp only [OpW, valCall, aOp]
  simp only [List.size_toArray, List.length_cons, List.length_nil, List.map_toArray, List.map_cons, List.map_nil]
  cases aAppend P #[t1, t2] #[aev tm x, aev tm y] H <;> rfl
def oM (x : Option (List Value × Option (Nat × Nat))) (H : AH) (Φ : Value → AH → Prop) : Prop := match x with | some (cs, i) => Φ (mkv i H.length) (H ++ [⟨cs, .own⟩]) | none => False
theorem oM_some {cs : List Value} {i : Option (Nat × Nat)} : oM (some (cs, i)) H Φ = Φ (mkv i H.length) (H ++ [⟨cs, .own⟩]) := rfl
theorem optW_map_M {x : Option (List Value × Option (Nat × Nat))} : optW (x.map fun x => (mkv x.2 H.length, H ++ [⟨x.1, .own⟩])) (fun x => Φ x.1 x.2) = oM x H Φ := by
  cases x <;> rfl
theorem oP_alloc {t : TypeId} : OpW P (aev tm) (.alloc t) H Φ = oM (aMake P (aev tm) (.alloc t)) H Φ := optW_map_M
theorem oP_box {t : TypeId} {x : Operand} : OpW P (aev tm) (.box t x) H Φ = oM (some ((aev tm x).cells.toList, none)) H Φ := rfl
theorem oP_buildSlice {t : TypeId} {n : Nat} {ps : Array (Nat × Operand)} : OpW P (aev tm) (.buildSlice t n ps) H Φ = oM (aMake P (aev tm) (.buildSlice t n ps)) H Φ := optW_map_M
theorem oP_makeSlice {t : TypeId} {x y : Operand} : OpW P (aev tm) (.makeSlice t x y) H Φ = oM (aMake P (aev tm) (.makeSlice t x y)) H Φ := optW_map_M
theorem oP_call {f : FuncId} {xs : Array Operand} {ts : Array TypeId} : OpW P (aev tm) (.call ⟨.value (.func f), xs, ts⟩) H Φ = CallsA P f (xs.map (aev tm)) H Φ := by
  simp only [OpW, valCall, aev, Array.empty_append, Array.append_empty]

def oF (P : Program) (v : Value) (args : Array Value) (H : AH) (Φ : Value → AH → Prop) : Prop := match v with | .func (.func g) first cap => CallsA P g (first ++ args ++ cap) H Φ | _ => False
theorem oP_callv {t : Nat} {xs : Array Operand} {ts : Array TypeId} : OpW P (aev tm) (.call ⟨.value (.tmp t), xs, ts⟩) H Φ = oF P (tm t) (xs.map (aev tm)) H Φ := by
  simp only [OpW, valCall, aev, oF]
  cases tm t <;> try rfl
theorem oF_func {g : FuncId} {first args cap : Array Value} : oF P (.func (.func g) first cap) args H Φ = CallsA P g (first ++ args ++ cap) H Φ := rfl

/-! ### regions that draw their order -/
section
variable {prs : List (Nat × Nat)} {i : Nat} {d : Option Nat} {l : List KO} {s : List Fr} {Q : Post} {tm : Tm} {H : AH} {hist : List (Nat × AH)} {pend : List (Nat × Op × Value × Value)} {o : Op}
def rD (P : Program) (prs : List (Nat × Nat)) (i : Nat) (l : List KO) (s : List Fr) (Q : Post) (tm : Tm) (H : AH) (hist : List (Nat × AH)) (pend : List (Nat × Op × Value × Value)) : Prop := kDraw P prs i l tm H hist pend (kK P s Q .normal)
def rDV (P : Program) (prs : List (Nat × Nat)) (i : Nat) (d : Option Nat) (l : List KO) (s : List Fr) (Q : Post) (tm : Tm) (hist : List (Nat × AH)) (pend : List (Nat × Op × Value × Value)) (v : Value) (H : AH) : Prop := rD P prs (i + 1) l s Q (aput tm d v) H hist pend
def rDR (P : Program) (prs : List (Nat × Nat)) (i : Nat) (d : Option Nat) (o : Op) (x : Value) (l : List KO) (s : List Fr) (Q : Post) (tm : Tm) (hist : List (Nat × AH)) (pend : List (Nat × Op × Value × Value)) (v : Value) (H : AH) : Prop := chkH P prs i o x v hist ∧ rD P prs (i + 1) l s Q (aput tm d v) H hist ((i, o, x, v) :: pend)
def rDE (P : Program) (prs : List (Nat × Nat)) (i : Nat) (d : Option Nat) (l : List KO) (s : List Fr) (Q : Post) (tm : Tm) (hist : List (Nat × AH)) (pend : List (Nat × Op × Value × Value)) (v : Value) (H : AH) : Prop := chkP P prs (i + 1) H pend ∧ rD P prs (i + 1) l s Q (aput tm d v) H ((i + 1, H) :: hist) pend
def rDS (P : Program) (prs : List (Nat × Nat)) (i : Nat) (d : Option Nat) (o : Op) (l : List KO) (s : List Fr) (Q : Post) (tm : Tm) (H : AH) (hist : List (Nat × AH)) (pend : List (Nat × Op × Value × Value)) : Prop :=
  if isE o = true then chkP P prs (i + 1) H pend ∧ rD P prs (i + 1) l s Q (aput tm d undef) H ((i + 1, H) :: hist) pend else rD P prs (i + 1) l s Q (aput tm d undef) H hist pend
def rDG (P : Program) (v : Value) (g : Nat) (w : Bool) (prs : List (Nat × Nat)) (i : Nat) (d : Option Nat) (o : Op) (l : List KO) (s : List Fr) (Q : Post) (tm : Tm) (H : AH) (hist : List (Nat × AH)) (pend : List (Nat × Op × Value × Value)) : Prop :=
  match v with
  | .bool b => two b (if w = true then rD P prs i (⟨d, none, o⟩ :: l) s Q (aput tm (some g) (.bool true)) H hist pend else rDS P prs i d o l s Q (aput tm (some g) (.bool true)) H hist pend)
      (if w = true then rDS P prs i d o l s Q (aput tm (some g) (.bool false)) H hist pend else rD P prs i (⟨d, none, o⟩ :: l) s Q (aput tm (some g) (.bool false)) H hist pend)
  | _ => rDS P prs i d o l s Q tm H hist pend
def plain (o : Op) : Bool := (rdArg o).isNone && !isE o
theorem rW_draw {B : Array Nat} : rW P (.draw B prs l) s Q tm H = rD P prs 0 l s Q tm H [(0, H)] [] := rfl
theorem rD_nil : rD P prs i [] s Q tm H hist pend = rE P .normal s Q tm H := rfl
theorem rDV_eq {v : Value} : rDV P prs i d l s Q tm hist pend v H = rD P prs (i + 1) l s Q (aput tm d v) H hist pend := rfl
theorem rDR_eq {x v : Value} : rDR P prs i d o x l s Q tm hist pend v H = (chkH P prs i o x v hist ∧ rD P prs (i + 1) l s Q (aput tm d v) H hist ((i, o, x, v) :: pend)) := rfl
theorem rDE_eq {v : Value} : rDE P prs i d l s Q tm hist pend v H = (chkP P prs (i + 1) H pend ∧ rD P prs (i + 1) l s Q (aput tm d v) H ((i + 1, H) :: hist) pend) := rfl
theorem rDS_n (h : plain o = true) : rDS P prs i d o l s Q tm H hist pend = rD P prs (i + 1) l s Q (aput tm d undef) H hist pend := by
  simp only [plain, Bool.and_eq_true, Bool.not_eq_true'] at h
  simp [rDS, h.2]
theorem rDS_l {t : TypeId} {x : Operand} : rDS P prs i d (.load t x) l s Q tm H hist pend = rD P prs (i + 1) l s Q (aput tm d undef) H hist pend := rfl
theorem rDS_c {t u : TypeId} {x : Operand} : rDS P prs i d (.convert t u x) l s Q tm H hist pend = rD P prs (i + 1) l s Q (aput tm d undef) H hist pend := rfl
theorem rDS_e (h : isE o = true) : rDS P prs i d o l s Q tm H hist pend = (chkP P prs (i + 1) H pend ∧ rD P prs (i + 1) l s Q (aput tm d undef) H ((i + 1, H) :: hist) pend) := by simp [rDS, h]
theorem optW_oV {x : Option Value} {H : AH} {Φ : Value → AH → Prop} : (optW x fun v => Φ v H) = oV x H Φ := by cases x <;> rfl
theorem rD_load {t : TypeId} {x : Operand} : rD P prs i (⟨d, none, .load t x⟩ :: l) s Q tm H hist pend = oV (aLoad P t (aev tm x) H.get) H (rDR P prs i d (.load t x) (aev tm x) l s Q tm hist pend) := by
  rw [← optW_oV]; rfl
theorem rD_conv {t u : TypeId} {x : Operand} : rD P prs i (⟨d, none, .convert t u x⟩ :: l) s Q tm H hist pend = oV (aConv P t u (aev tm x) H.get) H (rDR P prs i d (.convert t u x) (aev tm x) l s Q tm hist pend) := by
  rw [← optW_oV]; rfl
theorem rD_pure (h : plain o = true) : rD P prs i (⟨d, none, o⟩ :: l) s Q tm H hist pend = OpW P (aev tm) o H (rDV P prs i d l s Q tm hist pend) := by
  simp only [plain, Bool.and_eq_true, Option.isNone_iff_eq_none, Bool.not_eq_true'] at h
  obtain ⟨h1, h2⟩ := h
  unfold rD
  simp only [kDraw, want, if_true, h1, h2, Bool.false_eq_true, if_false]
  rfl
theorem rD_e (h1 : isE o = true) : rD P prs i (⟨d, none, o⟩ :: l) s Q tm H hist pend = OpW P (aev tm) o H (rDE P prs i d l s Q tm hist pend) := by
  have h2 : rdArg o = none := by
    cases o <;> first | rfl | (simp [isE] at h1)
  unfold rD
  simp only [kDraw, want, if_true, h1, h2]
  rfl
theorem rD_g {g : Nat} {w : Bool} : rD P prs i (⟨d, some (g, w), o⟩ :: l) s Q tm H hist pend = rDG P (tm g) g w prs i d o l s Q tm H hist pend := by
  unfold rDG
  have hskip : ∀ tm, want (some (g, w)) tm = false → rD P prs i (⟨d, some (g, w), o⟩ :: l) s Q tm H hist pend = rDS P prs i d o l s Q tm H hist pend := by
    intro tm h
    unfold rD rDS rD
    simp only [kDraw, h, Bool.false_eq_true, if_false]
  have hgo : ∀ tm, want (some (g, w)) tm = true → rD P prs i (⟨d, some (g, w), o⟩ :: l) s Q tm H hist pend = rD P prs i (⟨d, none, o⟩ :: l) s Q tm H hist pend := by
    intro tm h
    unfold rD
    have h' : want none tm = true := rfl
    simp only [kDraw, h, h', if_true]
  split
  · rename_i b hb
    cases b with
    | true =>
      rw [two_true, aput_self hb]
      cases w with
      | true => rw [if_pos rfl]; exact hgo tm (by simp [want, hb])
      | false => rw [if_neg (by simp)]; exact hskip tm (by simp [want, hb])
    | false =>
      rw [two_false, aput_self hb]
      cases w with
      | true => rw [if_pos rfl]; exact hskip tm (by simp [want, hb])
      | false => rw [if_neg (by simp)]; exact hgo tm (by simp [want, hb])
  · rename_i hb
    refine hskip tm ?_
    simp only [want]
theorem rDG_t {b : Bool} {g : Nat} : rDG P (.bool b) g true prs i d o l s Q tm H hist pend = two b (rD P prs i (⟨d, none, o⟩ :: l) s Q (aput tm (some g) (.bool true)) H hist pend) (rDS P prs i d o l s Q (aput tm (some g) (.bool false)) H hist pend) := by
  simp [rDG]
theorem rDG_f {b : Bool} {g : Nat} : rDG P (.bool b) g false prs i d o l s Q tm H hist pend = two b (rDS P prs i d o l s Q (aput tm (some g) (.bool true)) H hist pend) (rD P prs i (⟨d, none, o⟩ :: l) s Q (aput tm (some g) (.bool false)) H hist pend) := by
  simp [rDG]
theorem rDG_undef {g : Nat} {w : Bool} : rDG P undef g w prs i d o l s Q tm H hist pend = rDS P prs i d o l s Q tm H hist pend := rfl
theorem chkH_nil {x v : Value} : chkH P prs i o x v [] = True := rfl
theorem chkH_cons {x v : Value} {p : Nat} {Hp : AH} {r : List (Nat × AH)} : chkH P prs i o x v ((p, Hp) :: r) = (((i, p) ∈ prs → aRead P o x Hp.get = some v) ∧ chkH P prs i o x v r) := rfl
theorem chkP_nil {p : Nat} {Hp : AH} : chkP P prs p Hp [] = True := rfl
theorem chkP_cons {x v : Value} {p j : Nat} {Hp : AH} {r : List (Nat × Op × Value × Value)} : chkP P prs p Hp ((j, o, x, v) :: r) = (((j, p) ∈ prs → aRead P o x Hp.get = some v) ∧ chkP P prs p Hp r) := rfl
theorem aRead_load {t : TypeId} {x : Operand} {v : Value} {G : Hp} : aRead P (.load t x) v G = aLoad P t v G := rfl
theorem aRead_conv {t u : TypeId} {x : Operand} {v : Value} {G : Hp} : aRead P (.convert t u x) v G = aConv P t u v G := rfl
theorem pl_move {x : Operand} : plain (.move x) = true := rfl
theorem pl_assign {x : Operand} : plain (.assign x) = true := rfl
theorem pl_pick {a b c : Operand} : plain (.pick a b c) = true := rfl
theorem pl_alloc {t : TypeId} : plain (.alloc t) = true := rfl
theorem pl_box {t : TypeId} {x : Operand} : plain (.box t x) = true := rfl
theorem pl_build {t : TypeId} {ps : Array (Nat × Operand)} : plain (.build t ps) = true := rfl
theorem pl_buildSlice {t : TypeId} {n : Nat} {ps : Array (Nat × Operand)} : plain (.buildSlice t n ps) = true := rfl
theorem pl_nilCheck {x : Operand} : plain (.nilCheck x) = true := rfl
theorem pl_binOp {b : BinOp} {t u : TypeId} {x y : Operand} : plain (.binOp b t x y u) = true := rfl
theorem pl_unOp {b : UnOp} {t : TypeId} {x : Operand} : plain (.unOp b t x) = true := rfl
theorem pl_makeFunc {f : Fn} {xs ys : Array Operand} : plain (.makeFunc f xs ys) = true := rfl
theorem pl_makeSlice {t : TypeId} {x y : Operand} : plain (.makeSlice t x y) = true := rfl
theorem pl_slice {t : TypeId} {x : Operand} {a b c : Option Operand} : plain (.slice t x a b c) = true := rfl
theorem pl_fieldAddr {t : TypeId} {x : Operand} {n : Nat} : plain (.fieldAddr t x n) = true := rfl
theorem pl_field {t : TypeId} {x : Operand} {n : Nat} : plain (.field t x n) = true := rfl
theorem pl_indexAddr {t : TypeId} {x y : Operand} : plain (.indexAddr t x y) = true := rfl
theorem pl_index {t : TypeId} {x y : Operand} : plain (.index t x y) = true := rfl
theorem pl_extract {x : Operand} {n : Nat} : plain (.extract x n) = true := rfl
theorem pl_len {xs : Array Operand} {ts : Array TypeId} : plain (.call ⟨.builtin .len, xs, ts⟩) = true := rfl
theorem pl_cap {xs : Array Operand} {ts : Array TypeId} : plain (.call ⟨.builtin .cap, xs, ts⟩) = true := rfl
theorem pl_max {xs : Array Operand} {ts : Array TypeId} : plain (.call ⟨.builtin .max, xs, ts⟩) = true := rfl
theorem pl_min {xs : Array Operand} {ts : Array TypeId} : plain (.call ⟨.builtin .min, xs, ts⟩) = true := rfl
theorem isE_store {t : TypeId} {a v : Operand} : isE (.store t a v) = true := rfl
theorem isE_call {f : Operand} {xs : Array Operand} {ts : Array TypeId} : isE (.call ⟨.value f, xs, ts⟩) = true := rfl
theorem isE_append {xs : Array Operand} {ts : Array TypeId} : isE (.call ⟨.builtin .append, xs, ts⟩) = true := rfl
end

/-! ### slots -/
theorem aev_tmp {t : Nat} : aev tm (.tmp t) = tm t := rfl
theorem aev_const {v : Value} : aev tm (.const v) = v := rfl
theorem aev_func {f : FuncId} : aev tm (.func f) = .func (.func f) #[] #[] := rfl
theorem aput_get {x : Nat} {v : Value} {t : Nat} : aput tm (some x) v t = if t = x then v else tm t := rfl
theorem aput_none {v : Value} : aput tm none v = tm := rfl

/-! ### numbers -/
variable {t : TypeId} {x y : Operand} {k : IntKind} {a b : Int}
theorem bin_add : aBin P .add t x y (.int k a) (.int k b) = some (.int k (k.wrap (a + b))) := by
  simp [aBin, scal, scal1, eqGuard, binOp, Op.intArith, runP, told, pure, bind, Sem.bind]
theorem bin_sub : aBin P .sub t x y (.int k a) (.int k b) = some (.int k (k.wrap (a - b))) := by
  simp [aBin, scal, scal1, eqGuard, binOp, Op.intArith, runP, told, pure, bind, Sem.bind]
theorem bin_mul : aBin P .mul t x y (.int k a) (.int k b) = some (.int k (k.wrap (a * b))) := by
  simp [aBin, scal, scal1, eqGuard, binOp, Op.intArith, runP, told, pure, bind, Sem.bind]
theorem bin_quo (h : b ≠ 0) : aBin P .quo t x y (.int k a) (.int k b) = some (.int k (k.wrap (a.tdiv b))) := by
  simp [aBin, scal, scal1, eqGuard, binOp, Op.intDiv, runP, told, pure, bind, Sem.bind, h]
theorem bin_rem (h : b ≠ 0) : aBin P .rem t x y (.int k a) (.int k b) = some (.int k (a.tmod b)) := by
  simp [aBin, scal, scal1, eqGuard, binOp, Op.intDiv, runP, told, pure, bind, Sem.bind, h]
theorem bin_eql : aBin P .eql t x y (.int k a) (.int k b) = some (.bool (a == b)) := by
  simp [aBin, scal, scal1, eqGuard, binOp, Op.intCmp, runP, told, pure, bind, Sem.bind]
theorem bin_neq : aBin P .neq t x y (.int k a) (.int k b) = some (.bool (a != b)) := by
  simp [aBin, scal, scal1, eqGuard, binOp, Op.intCmp, runP, told, pure, bind, Sem.bind]
theorem bin_lss : aBin P .lss t x y (.int k a) (.int k b) = some (.bool (decide (a < b))) := by
  simp [aBin, scal, scal1, eqGuard, binOp, Op.intCmp, runP, told, pure, bind, Sem.bind]
theorem bin_leq : aBin P .leq t x y (.int k a) (.int k b) = some (.bool (decide (a ≤ b))) := by
  simp [aBin, scal, scal1, eqGuard, binOp, Op.intCmp, runP, told, pure, bind, Sem.bind]
theorem bin_gtr : aBin P .gtr t x y (.int k a) (.int k b) = some (.bool (decide (a > b))) := by
  simp [aBin, scal, scal1, eqGuard, binOp, Op.intCmp, runP, told, pure, bind, Sem.bind]
theorem bin_geq : aBin P .geq t x y (.int k a) (.int k b) = some (.bool (decide (a ≥ b))) := by
  simp [aBin, scal, scal1, eqGuard, binOp, Op.intCmp, runP, told, pure, bind, Sem.bind]
theorem un_not {b : Bool} : aUn P .not (.bool b) = some (.bool (!b)) := by
  simp [aUn, scal, scal1, Op.unary, runP, told, pure]
theorem un_neg : aUn P .neg (.int k a) = some (.int k (k.wrap (0 - a))) := by
  simp [aUn, scal, scal1, Op.unary, runP, told, pure, Op.intArith]
theorem runP_bind {α β : Type} (s : Sem α) (f : α → Sem β) : runP P (s >>= f) = (runP P s).bind fun a => runP P (f a) := by
  show runP P (Sem.bind s f) = _
  induction s with
  | pure a => rfl
  | program k ih => simp only [Sem.bind, runP]; exact ih P
  | _ => simp [Sem.bind, runP]
theorem runP_und {t : TypeId} {e : TypeDesc} (h : P.underlying t = some e) : runP P (underlying t) = some e := by
  simp [underlying, program, h, runP, pure, bind, Sem.bind]
theorem runP_equal_bool {p q : Bool} (h : P.underlying t = some .bool) : runP P (Op.equal t (.bool p) (.bool q)) = some (p == q) := by
  unfold Op.equal
  rw [show Op.maxDepth = 9999 + 1 from rfl]
  unfold Op.equalIn
  rw [runP_bind, runP_und h]
  rfl
theorem bin_bool_eql {p q : Bool} (h : P.underlying t = some .bool) : aBin P .eql t x y (.bool p) (.bool q) = some (.bool (p == q)) := by
  have : runP P (do eqGuard .eql t x y (.bool p) (.bool q); binOp .eql t (.bool p) (.bool q)) = some (.bool (p == q)) := by
    rw [runP_bind]
    show ((some ()).bind fun _ => runP P (Op.equal t (.bool p) (.bool q) >>= fun c => (pure (Value.bool c) : Sem Value))) = _
    rw [Option.bind_some, runP_bind, runP_equal_bool h]
    rfl
  unfold aBin
  rw [this]
  rfl
theorem bin_bool_neq {p q : Bool} (h : P.underlying t = some .bool) : aBin P .neq t x y (.bool p) (.bool q) = some (.bool (p != q)) := by
  have : runP P (do eqGuard .neq t x y (.bool p) (.bool q); binOp .neq t (.bool p) (.bool q)) = some (.bool (p != q)) := by
    rw [runP_bind]
    show ((some ()).bind fun _ => runP P (Op.equal t (.bool p) (.bool q) >>= fun c => (pure (Value.bool !c) : Sem Value))) = _
    rw [Option.bind_some, runP_bind, runP_equal_bool h]
    rfl
  unfold aBin
  rw [this]
  rfl
theorem bin_str_add {p q : ByteArray} (h : p.size + q.size ≤ 9223372036854775807) : aBin P .add t x y (.string p) (.string q) = some (.string (p ++ q)) := by
  have : ¬ (((p.size + q.size : Nat) : Int) > IntKind.i64.max) := by
    have : IntKind.i64.max = 9223372036854775807 := by decide
    omega
  simp only [aBin, scal, scal1, eqGuard, binOp, Op.stringOp, runP, told, pure, bind, Sem.bind, if_neg this]
  simp [runP, pure, Sem.bind]
end
end Go.Proofs.Ytdagncfnkenbfaa.AM
/- The abstract machine: the frame of a function, slots and blocks. -/
namespace Go.Proofs.Ytdagncfnkenbfaa.AM
open Go

section
variable {P : Program}

def tm0 (args : Array Value) : Tm := fun i => args.getD i undef
theorem tm0_get {args : Array Value} {t : Nat} : tm0 args t = (args[t]?).getD undef := by
  simp [tm0, Array.getD_eq_getD_getElem?]

def resL (P : Program) (tm : Tm) (H : AH) : List ResultVar → Option (List Value)
  | [] => some []
  | .tmp t :: rs => (resL P tm H rs).map fun vs => tm t :: vs
  | .cell a t :: rs => match aLoad P t (tm a) H.get, resL P tm H rs with | some v, some vs => some (v :: vs) | _, _ => none
theorem resL_eq {tm : Tm} {H : AH} : ∀ rs, aResL P tm H.get rs = resL P tm H rs
  | [] => rfl
  | .tmp t :: rs => by simp only [aResL, aRes1, resL, Option.bind_some, resL_eq rs]
  | .cell a t :: rs => by
    simp only [aResL, aRes1, resL, resL_eq rs]
    cases aLoad P t (tm a) H.get with
    | none => rfl
    | some v => cases resL P tm H rs <;> rfl

def oR : Option Value → Option (List Value) → Option (List Value)
  | some v, some vs => some (v :: vs)
  | _, _ => none
theorem oR_some {v : Value} {vs : List Value} : oR (some v) (some vs) = some (v :: vs) := rfl
theorem resL_nil {tm : Tm} {H : AH} : resL P tm H [] = some [] := rfl
theorem resL_tmp {tm : Tm} {H : AH} {t : Nat} {rs : List ResultVar} : resL P tm H (.tmp t :: rs) = oR (some (tm t)) (resL P tm H rs) := by
  simp only [resL]
  cases resL P tm H rs <;> rfl
theorem resL_cell {tm : Tm} {H : AH} {a : Nat} {t : TypeId} {rs : List ResultVar} : resL P tm H (.cell a t :: rs) = oR (aLoad P t (tm a) H.get) (resL P tm H rs) := by
  simp only [resL]
  cases aLoad P t (tm a) H.get <;> cases resL P tm H rs <;> rfl
theorem tup_one {v : Value} : tup [v] = v := rfl
theorem tup_two {v w : Value} {vs : List Value} : tup (v :: w :: vs) = .tuple (v :: w :: vs).toArray := rfl
theorem tup_nil : tup [] = .tuple #[] := rfl

/-- What is asked of a function's end. -/
def fin (P : Program) (rs : List ResultVar) (Φ : Value → AH → Prop) : Post := fun ex tm H => match ex with
  | .exit _ => False
  | _ => oV ((resL P tm H rs).map tup) H Φ
theorem fin_ret {rs : List ResultVar} {Φ : Value → AH → Prop} {tm : Tm} {H : AH} : rE P .ret [] (fin P rs Φ) tm H = oV ((resL P tm H rs).map tup) H Φ := rfl
theorem fin_end {rs : List ResultVar} {Φ : Value → AH → Prop} {tm : Tm} {H : AH} : rE P .normal [] (fin P rs Φ) tm H = oV ((resL P tm H rs).map tup) H Φ := rfl
theorem fin1_ret {t : Nat} {Φ : Value → AH → Prop} {tm : Tm} {H : AH} : rE P .ret [] (fin P [.tmp t] Φ) tm H = Φ (tm t) H := rfl
theorem fin1_end {t : Nat} {Φ : Value → AH → Prop} {tm : Tm} {H : AH} : rE P .normal [] (fin P [.tmp t] Φ) tm H = Φ (tm t) H := rfl
theorem fin1c_ret {a : Nat} {t : TypeId} {Φ : Value → AH → Prop} {tm : Tm} {H : AH} : rE P .ret [] (fin P [.cell a t] Φ) tm H = oV (aLoad P t (tm a) H.get) H Φ := by
  rw [fin_ret]
  simp only [resL]
  cases aLoad P t (tm a) H.get <;> rfl
theorem fin1c_end {a : Nat} {t : TypeId} {Φ : Value → AH → Prop} {tm : Tm} {H : AH} : rE P .normal [] (fin P [.cell a t] Φ) tm H = oV (aLoad P t (tm a) H.get) H Φ := fin1c_ret

theorem CallsA.w {f : FuncId} {fn : Func} {c : Code} (K : KC) (rs : List ResultVar) (prs : Prs) (hf : P.funcs[f]? = some fn) (hb : fn.body = some c) (hr : fn.results.toList = rs) (hok : (fnOk fn c && codeSt prs c) = true) (hk : cmp prs c = K) {args : Array Value} {H : AH} {Φ : Value → AH → Prop}
    (h : rW P K [] (fin P rs Φ) (tm0 args) H) : CallsA P f args H Φ := by
  refine CallsA.k prs hf hb hok hk ?_
  have : (fnPost P fn Φ) = fin P rs Φ := by
    subst hr
    funext ex tm H
    cases ex with
    | exit i => rfl
    | normal =>
      show optW (aRes P fn tm H.get) (fun r => Φ r H) = oV ((resL P tm H fn.results.toList).map tup) H Φ
      unfold aRes
      rw [resL_eq]
      cases resL P tm H fn.results.toList <;> rfl
    | ret =>
      show optW (aRes P fn tm H.get) (fun r => Φ r H) = oV ((resL P tm H fn.results.toList).map tup) H Φ
      unfold aRes
      rw [resL_eq]
      cases resL P tm H fn.results.toList <;> rfl
  rw [this]
  exact h

/-! ### answers that are told once -/
/-- The call answers 'r' and leaves the heap 'H''. -/
def Ans (P : Program) (f : FuncId) (args : Array Value) (H : AH) (r : Value) (H' : AH) : Prop := CallsA P f args H fun r2 H2 => r2 = r ∧ H2 = H'
theorem Ans.eq {f : FuncId} {args : Array Value} {H : AH} {r : Value} {H' : AH} (h : Ans P f args H r H') {Φ : Value → AH → Prop} : CallsA P f args H Φ = Φ r H' := by
  obtain ⟨k, r2, H2, h1, rfl, rfl⟩ := h
  refine propext ⟨fun ⟨k', r3, H3, h2, h3⟩ => ?_, fun hp => ⟨k, r2, H2, h1, hp⟩⟩
  have := call_det h1 h2
  cases this
  exact h3

/-- The value that a call answers, and the blocks that it leaves behind. -/
noncomputable def ret (P : Program) (f : FuncId) (args : Array Value) (H : AH) : Value :=
  open Classical in if h : ∃ k x, aCall P k f args H = some x then (Classical.choose (Classical.choose_spec h)).1 else undef
noncomputable def aft (P : Program) (f : FuncId) (args : Array Value) (H : AH) : AH :=
  open Classical in if h : ∃ k x, aCall P k f args H = some x then (Classical.choose (Classical.choose_spec h)).2 else H
noncomputable def jk (P : Program) (f : FuncId) (args : Array Value) (H : AH) : AH := (aft P f args H).drop H.length

theorem CallsA.eq {f : FuncId} {args : Array Value} {H : AH} {Ψ : Value → AH → Prop} (h : CallsA P f args H Ψ) {Φ : Value → AH → Prop} : CallsA P f args H Φ = Φ (ret P f args H) (aft P f args H) := by
  obtain ⟨k, r, H', h1, h2⟩ := h
  have hex : ∃ k x, aCall P k f args H = some x := ⟨k, _, h1⟩
  have h3 := Classical.choose_spec (Classical.choose_spec hex)
  have e := call_det h1 h3
  have e1 : ret P f args H = r := by unfold ret; rw [dif_pos hex, ← e]
  have e2 : aft P f args H = H' := by unfold aft; rw [dif_pos hex, ← e]
  have : Ans P f args H r H' := ⟨k, r, H', h1, rfl, rfl⟩
  rw [this.eq, e1, e2]
theorem CallsA.said {f : FuncId} {args : Array Value} {H : AH} {Φ : Value → AH → Prop} (h : CallsA P f args H Φ) : Φ (ret P f args H) (aft P f args H) := by
  have := h.eq (Φ := Φ)
  exact this ▸ h
/-- A call that only puts new blocks behind the old ones. -/
theorem CallsA.eqJ {f : FuncId} {args : Array Value} {H : AH} {Ψ : Value → AH → Prop} (h : CallsA P f args H fun r H' => Ψ r H' ∧ ∃ K, H' = H ++ K) {Φ : Value → AH → Prop} : CallsA P f args H Φ = Φ (ret P f args H) (H ++ jk P f args H) := by
  rw [h.eq]
  obtain ⟨_, K, hK⟩ := h.said
  unfold jk
  rw [hK, List.drop_left]
theorem CallsA.eqV {f : FuncId} {args : Array Value} {H : AH} {r : Value} (h : CallsA P f args H fun r' H' => r' = r ∧ ∃ K, H' = H ++ K) {Φ : Value → AH → Prop} : CallsA P f args H Φ = Φ r (H ++ jk P f args H) := by
  rw [h.eqJ]
  rw [h.said.1]
theorem CallsA.eq0 {f : FuncId} {args : Array Value} {H : AH} {r : Value} (h : CallsA P f args H fun r' H' => r' = r ∧ H' = H) {Φ : Value → AH → Prop} : CallsA P f args H Φ = Φ r H := Ans.eq h

/-! ### blocks -/
theorem gt0 {H L : AH} : (H ++ L)[H.length]? = L[0]? := by
  rw [List.getElem?_append_right (Nat.le_refl _), Nat.sub_self]
theorem gti {H L : AH} {i : Nat} : (H ++ L)[H.length + i]? = L[i]? := by
  rw [List.getElem?_append_right (Nat.le_add_right ..), Nat.add_sub_cancel_left]
theorem st0 {H L : AH} {b : Blk} : (H ++ L).set H.length b = H ++ L.set 0 b := by
  rw [List.set_append_right _ _ (Nat.le_refl _), Nat.sub_self]
theorem sti {H L : AH} {i : Nat} {b : Blk} : (H ++ L).set (H.length + i) b = H ++ L.set i b := by
  rw [List.set_append_right _ _ (Nat.le_add_right ..), Nat.add_sub_cancel_left]
theorem gtl {H L : AH} {i : Nat} {b : Blk} (h : H[i]? = some b) : (H ++ L)[i]? = some b := by
  rw [List.getElem?_append_left (List.getElem?_eq_some_iff.1 h).1, h]

def rdB : Option Blk → Option (List Value)
  | some ⟨cs, .own⟩ => some cs
  | some ⟨cs, .ro⟩ => some cs
  | _ => none
theorem rdB_own {cs : List Value} : rdB (some ⟨cs, .own⟩) = some cs := rfl
theorem rdB_ro {cs : List Value} : rdB (some ⟨cs, .ro⟩) = some cs := rfl
def wrB : Option Blk → Option (List Value)
  | some ⟨cs, .own⟩ => some cs
  | _ => none
theorem wrB_own {cs : List Value} : wrB (some ⟨cs, .own⟩) = some cs := rfl
/-- The cells of the block 'b', if it may be read; if it may be written. -/
def rd (H : AH) (b : Nat) : Option (List Value) := rdB H[b]?
def wrt (H : AH) (b : Nat) : Option (List Value) := wrB H[b]?
theorem rd0 {H L : AH} : rd (H ++ L) H.length = rdB L[0]? := by unfold rd; rw [gt0]
theorem rdi {H L : AH} {i : Nat} : rd (H ++ L) (H.length + i) = rdB L[i]? := by unfold rd; rw [gti]
theorem wrt0 {H L : AH} : wrt (H ++ L) H.length = wrB L[0]? := by unfold wrt; rw [gt0]
theorem wrti {H L : AH} {i : Nat} : wrt (H ++ L) (H.length + i) = wrB L[i]? := by unfold wrt; rw [gti]
theorem rdl {H L : AH} {b : Nat} (h : (rd H b).isSome = true) : rd (H ++ L) b = rd H b := by
  unfold rd at h ⊢
  cases e : H[b]? with
  | none => rw [e] at h; cases h
  | some k => rw [gtl e]
theorem wrtl {H L : AH} {b : Nat} (h : (wrt H b).isSome = true) : wrt (H ++ L) b = wrt H b := by
  unfold wrt at h ⊢
  cases e : H[b]? with
  | none => rw [e] at h; cases h
  | some k => rw [gtl e]

def ld (P : Program) (t : TypeId) (o : Nat) (cs : List Value) : Option Value :=
  match isAggT P t with
  | some true => (szOf P t).bind fun n => (cellsAt cs o n).map fun l => .agg l.toArray
  | some false => cs[o]?
  | none => none
def oL (P : Program) (t : TypeId) (o : Nat) : Option (List Value) → Option Value
  | some cs => ld P t o cs
  | none => none
theorem oL_some {t : TypeId} {o : Nat} {cs : List Value} : oL P t o (some cs) = ld P t o cs := rfl
theorem load_eq {H : AH} {b o : Nat} {t : TypeId} : aLoad P t (.pointer (some ⟨b, o, none⟩)) H.get = oL P t o (rd H b) := by
  unfold aLoad rd oL ld
  show (match H[b]? with | some ⟨cs, st⟩ => _ | none => none) = _
  cases H[b]? with
  | none => rfl
  | some k =>
    obtain ⟨cs, st⟩ := k
    cases st <;> rfl
/-- The cells from 'o' on, of a struct of 'n' cells. -/
def aggAt (n o : Nat) (cs : List Value) : Option Value := if o + n ≤ cs.length then some (.agg ((cs.drop o).take n).toArray) else none
theorem ld_agg {t : TypeId} {n o : Nat} {cs : List Value} (h1 : isAggT P t = some true) (h2 : szOf P t = some n) : ld P t o cs = aggAt n o cs := by
  simp only [ld, h1, h2, Option.bind_some, cellsAt, aggAt]
  split <;> rfl
theorem ld_one {t : TypeId} {o : Nat} {cs : List Value} (h1 : isAggT P t = some false) : ld P t o cs = cs[o]? := by
  simp [ld, h1]

def sto (n b o : Nat) (v : Value) (H : AH) : Option (List Value) → Option AH
  | some cs => if v.cells.size = n ∧ v.cells.toList.all leaf = true ∧ o + n ≤ cs.length then some (H.set b ⟨splice cs o v.cells.toList, .own⟩) else none
  | none => none
theorem sto_some {n b o : Nat} {v : Value} {H : AH} {cs : List Value} : sto n b o v H (some cs) = if v.cells.size = n ∧ v.cells.toList.all leaf = true ∧ o + n ≤ cs.length then some (H.set b ⟨splice cs o v.cells.toList, .own⟩) else none := rfl
theorem store_eq {H : AH} {b o : Nat} {t : TypeId} {v : Value} {n : Nat} (h1 : szOf P t = some n) : aStore P t (.pointer (some ⟨b, o, none⟩)) v H = sto n b o v H (wrt H b) := by
  unfold wrt
  simp only [aStore, h1]
  cases H[b]? with
  | none => rfl
  | some k =>
    obtain ⟨cs, st⟩ := k
    cases st with
    | own =>
      simp only [wrB, sto, Option.some.injEq]
      split
      · rename_i h
        rw [if_pos ⟨h.1.symm, h.2.1, by rw [h.1]; exact h.2.2⟩]
      · rename_i h
        rw [if_neg fun h' => h ⟨h'.1.symm, h'.2.1, by rw [h'.1]; exact h'.2.2⟩]
    | _ => rfl
theorem cells_agg {xs : Array Value} : (Value.agg xs).cells = xs := rfl
theorem cells_int {k : IntKind} {n : Int} : (Value.int k n).cells = #[.int k n] := rfl
theorem cells_bool {b : Bool} : (Value.bool b).cells = #[.bool b] := rfl
theorem cells_string {s : ByteArray} : (Value.string s).cells = #[.string s] := rfl
theorem cells_pointer {p : Option Addr} : (Value.pointer p).cells = #[.pointer p] := rfl
theorem cells_slice {a : Option Addr} {n c : Nat} : (Value.slice a n c).cells = #[.slice a n c] := rfl
theorem leaf_int {k : IntKind} {n : Int} : leaf (.int k n) = true := rfl
theorem leaf_bool {b : Bool} : leaf (.bool b) = true := rfl
theorem leaf_string {s : ByteArray} : leaf (.string s) = true := rfl
theorem leaf_pointer {p : Option Addr} : leaf (.pointer p) = true := rfl
theorem leaf_slice {a : Option Addr} {n c : Nat} : leaf (.slice a n c) = true := rfl
theorem splice_nil {cs : List Value} {o : Nat} : splice cs o [] = cs := by cases cs <;> rfl
theorem splice_cons {cs vs : List Value} {o : Nat} {v : Value} : splice cs o (v :: vs) = splice (cs.set o v) (o + 1) vs := by rw [splice]
/-! ### making slices -/
def mkS (P : Program) (t : TypeId) (v w : Value) : Option (List Value × Option (Nat × Nat)) :=
  match P.underlying t, v, w with
  | some (.slice e), .int _ n, .int _ m =>
    match P.info? e with
    | some i =>
      match i.zero with
      | some z => if n = m ∧ 0 ≤ n ∧ n ≤ 1073741824 ∧ i.bytes ≤ 1024 ∧ z.cells.all closed1 = true then some ((zfill z.cells (n.toNat * i.size)).toList, some (n.toNat, i.size)) else none
      | none => none
    | none => none
  | _, _, _ => none
theorem oP_mkS {tm : Tm} {H : AH} {Φ : Value → AH → Prop} {t : TypeId} {x y : Operand} : OpW P (aev tm) (.makeSlice t x y) H Φ = oM (mkS P t (aev tm x) (aev tm y)) H Φ := optW_map_M
theorem zfill_rep {z : Array Value} (hz : 0 < z.size) : ∀ n, (zfill z (n * z.size)).toList = (List.replicate n z.toList).flatten := by
  intro n
  have hl : ∀ x ∈ List.replicate n z.toList, x.length = z.size := by
    intro x hx
    rw [(List.mem_replicate.1 hx).2]; simp
  have hlen : (List.replicate n z.toList).flatten.length = n * z.size := by
    rw [List.length_flatten]; simp
  refine List.ext_getElem? fun i => ?_
  rcases Nat.lt_or_ge i (n * z.size) with h | h
  · have hm : i % z.size < z.size := Nat.mod_lt _ hz
    have key : ∀ (n i : Nat), i < n * z.size → (List.replicate n z.toList).flatten[i]? = z.toList[i % z.size]? := by
      intro n
      induction n with
      | zero => intro i h; omega
      | succ n ih =>
        intro i h
        rw [List.replicate_succ, List.flatten_cons]
        rcases Nat.lt_or_ge i z.size with h1 | h1
        · rw [List.getElem?_append_left (by simpa using h1), Nat.mod_eq_of_lt h1]
        · rw [List.getElem?_append_right (by simpa using h1), ih _ (by rw [Nat.add_mul] at h; simp; omega)]
          simp only [Array.length_toList]
          rw [Nat.mod_eq_sub_mod h1]
    rw [key n i h]
    have : (zfill z (n * z.size)).toList[i]? = some (z[i % z.size]!) := by
      simp [zfill, h]
    rw [this]
    simp [hm]
  · rw [List.getElem?_eq_none (by simp [zfill]; exact h), List.getElem?_eq_none (by omega)]
theorem mkS_eq {t e : TypeId} {z : Value} {s : Nat} {k k' : IntKind} {n : Int} (ht : P.underlying t = some (.slice e)) (hz : zeroOf P e = some z) (hs : szOf P e = some s) (hb : ((P.info? e).map fun i => decide (i.bytes ≤ 1024)) = some true) (hc : z.cells.all closed1 = true) (hzs : z.cells.size = s) (hs0 : 0 < s) :
    mkS P t (.int k n) (.int k' n) = if 0 ≤ n ∧ n ≤ 1073741824 then some ((List.replicate n.toNat z.cells.toList).flatten, some (n.toNat, s)) else none := by
  unfold mkS
  unfold zeroOf at hz
  unfold szOf at hs
  cases hi : P.info? e with
  | none => simp [hi] at hz
  | some i =>
    simp only [hi, Option.bind_some, Option.map_some, Option.some.injEq, decide_eq_true_eq] at hz hs hb
    simp only [ht, hi, hz, hb, hc, true_and, and_true, hs]
    by_cases h : 0 ≤ n ∧ n ≤ 1073741824
    · rw [if_pos h, if_pos h]
      subst hzs
      rw [zfill_rep hs0]
    · rw [if_neg h, if_neg h]
end
end Go.Proofs.Ytdagncfnkenbfaa.AM
/- The abstract machine: loops, and operations that may fail. -/
namespace Go.Proofs.Ytdagncfnkenbfaa.AM
open Go

section
variable {P : Program}

/-- The loop's frame is data in the stack: what is to hold where the body comes to its end. -/
def lpK (P : Program) (J : Tm → AH → Prop) (s : List Fr) (Q : Post) : Post := fun ex tm H => match ex with | .normal => J tm H | ex => kK P s Q ex tm H

theorem rW_loop {c : KC} {s : List Fr} {Q : Post} {σ : Type} (I : σ → Tm → AH → Prop) (μ : σ → Nat) (x : σ) {tm : Tm} {H : AH} (h0 : I x tm H)
    (hs : ∀ x tm H, I x tm H → rW P c [] (lpK P (fun tm' H' => ∃ y, μ y < μ x ∧ I y tm' H') s Q) tm H) : rW P (.loop c) s Q tm H := by
  refine ⟨fun n tm H => ∃ x, n = μ x ∧ I x tm H, μ x, ⟨x, rfl, h0⟩, ?_⟩
  rintro n tm H ⟨x, rfl, hx⟩
  have := hs x tm H hx
  unfold rW at this
  have e : (kK P [] (lpK P (fun tm' H' => ∃ y, μ y < μ x ∧ I y tm' H') s Q)) = (fun ex tm' H' => match ex with | .normal => ∃ m, m < μ x ∧ ∃ y, m = μ y ∧ I y tm' H' | ex => kK P s Q ex tm' H') := by
    funext ex tm' H'
    cases ex with
    | normal =>
      refine propext ⟨?_, ?_⟩
      · rintro ⟨y, h1, h2⟩
        exact ⟨μ y, h1, y, rfl, h2⟩
      · rintro ⟨m, h1, y, rfl, h2⟩
        exact ⟨y, h1, h2⟩
    | _ => rfl
  rw [e] at this
  exact this
theorem lp_end {J : Tm → AH → Prop} {s : List Fr} {Q : Post} {tm : Tm} {H : AH} : rE P .normal [] (lpK P J s Q) tm H = J tm H := rfl
theorem lp_ret {J : Tm → AH → Prop} {s : List Fr} {Q : Post} {tm : Tm} {H : AH} : rE P .ret [] (lpK P J s Q) tm H = rE P .ret s Q tm H := rfl
theorem lp_exit {i : Nat} {J : Tm → AH → Prop} {s : List Fr} {Q : Post} {tm : Tm} {H : AH} : rE P (.exit i) [] (lpK P J s Q) tm H = rE P (.exit i) s Q tm H := rfl

theorem oV_ite {c : Prop} [Decidable c] {v : Value} {H : AH} {Φ : Value → AH → Prop} : oV (if c then some v else none) H Φ = (c ∧ Φ v H) := by
  by_cases h : c
  · simp [h, oV]
  · simp [h, oV]
theorem oS_ite {c : Prop} [Decidable c] {H' : AH} {Φ : Value → AH → Prop} : oS (if c then some H' else none) Φ = (c ∧ Φ undef H') := by
  by_cases h : c
  · simp [h, oS]
  · simp [h, oS]
theorem oA_ite {c : Prop} [Decidable c] {v : Value} {H' : AH} {Φ : Value → AH → Prop} : oA (if c then some (v, H') else none) Φ = (c ∧ Φ v H') := by
  by_cases h : c
  · simp [h, oA]
  · simp [h, oA]
theorem oM_ite {c : Prop} [Decidable c] {x : List Value × Option (Nat × Nat)} {H : AH} {Φ : Value → AH → Prop} : oM (if c then some x else none) H Φ = (c ∧ oM (some x) H Φ) := by
  by_cases h : c
  · simp [h]
  · simp [h, oM]
theorem two_intro {b : Bool} {A B : Prop} (h1 : b = true → A) (h2 : b = false → B) : two b A B := ⟨h1, h2⟩

/-! ### strings -/
def byt (s : ByteArray) (i : Nat) : Int := match s[i]? with | some b => b.toNat | none => 0
theorem byt_range (s : ByteArray) (i : Nat) : 0 ≤ byt s i ∧ byt s i ≤ 255 := by
  unfold byt
  split
  · rename_i b _
    have := b.toNat_lt
    omega
  · omega
theorem idx_str {t : TypeId} {s : ByteArray} {k : IntKind} {i : Int} (h : P.underlying t = some .string) : aIndex P t (.string s) (.int k i) = if 0 ≤ i ∧ i < s.size then some (.int .u8 (byt s i.toNat)) else none := by
  unfold aIndex
  simp only [scal1, Bool.and_self, if_true]
  by_cases h0 : 0 ≤ i
  · by_cases h1 : i < s.size
    · have hlt : i.toNat < s.size := by omega
      rw [if_pos ⟨h0, h1⟩]
      have hb : s[i.toNat]? = some s[i.toNat] := by simp [hlt]
      have e : runP P (Instr.index t (.string s) (.int k i)) = some (.int .u8 (s[i.toNat]).toNat) := by
        simp [Instr.index, asIntOf, underlying, program, h, runP, pure, bind, Sem.bind, h0, hb]
      rw [e, byt, hb]
      rfl
    · rw [if_neg (by omega)]
      have hb : s[i.toNat]? = none := by simp; omega
      have e : runP P (Instr.index t (.string s) (.int k i)) = none := by
        simp [Instr.index, asIntOf, underlying, program, h, runP, pure, bind, Sem.bind, h0, hb, boundsPanic, runtimePanic]
        split <;> rfl
      rw [e]; rfl
  · rw [if_neg (by omega)]
    have e : runP P (Instr.index t (.string s) (.int k i)) = none := by
      simp [Instr.index, asIntOf, underlying, program, h, runP, pure, bind, Sem.bind, h0, boundsPanic, runtimePanic]
      first | rfl | (split <;> rfl)
    rw [e]; rfl
theorem conv_int {s d : TypeId} {k k' : IntKind} {n : Int} {G : Hp} {e : TypeDesc} (hs : P.underlying s = some e) (hd : P.underlying d = some (.int k')) : aConv P s d (.int k n) G = some (.int k' (k'.wrap n)) := by
  unfold aConv
  have : runP P (convert s d (.int k n)) = some (.int k' (k'.wrap n)) := by
    unfold convert
    rw [runP_bind, runP_und hs, Option.bind_some, runP_bind, runP_und hd, Option.bind_some]
    rfl
  rw [this]
  rfl

/-! ### slices -/
def slc (b o n s : Nat) : Option Int → Option Int → Option Value
  | some l, some h => if 0 ≤ l ∧ l ≤ h ∧ h ≤ n then some (.slice (some ⟨b, o + l.toNat * s, none⟩) (h.toNat - l.toNat) s) else none
  | _, _ => none
theorem slc_some {b o n s : Nat} {l h : Int} : slc b o n s (some l) (some h) = if 0 ≤ l ∧ l ≤ h ∧ h ≤ n then some (.slice (some ⟨b, o + l.toNat * s, none⟩) (h.toNat - l.toNat) s) else none := rfl
theorem slc_eq {t e : TypeId} {b o n s : Nat} {lo hi : Option Value} (ht : P.underlying t = some (.slice e)) (hs : szOf P e = some s) : aSlice P t (.slice (some ⟨b, o, none⟩) n s) lo hi = slc b o n s (optInt 0 lo) (optInt n hi) := by
  unfold aSlice slc
  simp only [ht, hs]
  cases optInt 0 lo <;> cases optInt (↑n) hi <;> simp
theorem sln_eq {t e : TypeId} {n c s : Nat} {lo hi : Option Value} (ht : P.underlying t = some (.slice e)) (hs : szOf P e = some s) : aSlice P t (.slice none n c) lo hi = match optInt 0 lo, optInt n hi with | some l, some h => if 0 ≤ l ∧ l ≤ h ∧ h ≤ n then some (.slice none 0 0) else none | _, _ => none := by
  unfold aSlice
  simp only [ht, hs]
  cases optInt 0 lo <;> cases optInt (↑n) hi <;> simp
def sls (s : ByteArray) : Option Int → Option Int → Option Value
  | some l, some h => if 0 ≤ l ∧ l ≤ h ∧ h ≤ s.size then some (.string (s.extract l.toNat h.toNat)) else none
  | _, _ => none
theorem sls_some {s : ByteArray} {l h : Int} : sls s (some l) (some h) = if 0 ≤ l ∧ l ≤ h ∧ h ≤ s.size then some (.string (s.extract l.toNat h.toNat)) else none := rfl
theorem sls_eq {t : TypeId} {s : ByteArray} {lo hi : Option Value} (ht : P.underlying t = some .string) : aSlice P t (.string s) lo hi = sls s (optInt 0 lo) (optInt s.size hi) := by
  unfold aSlice sls
  simp only [ht]
  cases optInt 0 lo <;> cases optInt (↑s.size) hi <;> simp
theorem optInt_none {d : Int} : optInt d none = some d := rfl
theorem optInt_some {d j : Int} {k : IntKind} : optInt d (some (.int k j)) = some j := rfl
end
end Go.Proofs.Ytdagncfnkenbfaa.AM
/- The abstract machine: append, slices made of given values, most and least. -/
namespace Go.Proofs.Ytdagncfnkenbfaa.AM
open Go

section
variable {P : Program}

/-- The cells of a slice whose elements have 's' cells, if they may be read. -/
def cl (H : AH) (s : Nat) : Value → Option (List Value)
  | .slice none _ _ => some []
  | .slice (some ⟨b, o, none⟩) n _ => (rd H b).bind fun cs => if o + n * s ≤ cs.length then some ((cs.drop o).take (n * s)) else none
  | _ => none
theorem aCells_cl {H : AH} {s : Nat} {v : Value} : aCells v s H.get = cl H s v := by
  unfold aCells cl
  split
  · rfl
  · rename_i b o n c
    simp only
    unfold rd
    show (match H[b]? with | some ⟨cs, st⟩ => if st = St.dead then none else cellsAt cs o (n * s) | none => none) = _
    rcases H[b]? with _ | ⟨cs, st⟩
    · rfl
    · cases st <;> simp [rdB, cellsAt]
  · rename_i h1 h2
    split
    · exact (h1 _ _ rfl).elim
    · exact (h2 _ _ _ _ rfl).elim
    · rfl
def lenS : Value → Nat | .slice _ n _ => n | _ => 0
/-- What append does to slices. -/
def app (s : Nat) (v w : Value) (H : AH) : Option (Value × AH) :=
  match cl H s v, cl H s w with
  | some olds, some news =>
    if lenS w = 0 then some (v, H)
    else if lenS v + lenS w ≤ 1073741824 ∧ news.all leaf = true ∧ ownOk v s H = true then some (.slice (some ⟨H.length, 0, none⟩) (lenS v + lenS w) s, kill v H ++ [⟨olds ++ news, .own⟩])
    else none
  | _, _ => none
theorem append_eq {t tx e e' : TypeId} {s : Nat} {z : Value} (ht : P.underlying t = some (.slice e)) (htx : P.underlying tx = some (.slice e')) (hz : zeroOf P e = some z) (hs : szOf P e = some s) (hb : ((P.info? e).map fun i => decide (i.bytes ≤ 1024)) = some true) (hzs : z.cells.size = s)
    {a a' : Option Addr} {n c n' c' : Nat} {H : AH} : aAppend P #[t, tx] #[.slice a n c, .slice a' n' c'] H = app s (.slice a n c) (.slice a' n' c') H := by
  unfold zeroOf at hz
  unfold szOf at hs
  have h0 : aAppend P #[t, tx] #[.slice a n c, .slice a' n' c'] H = aAppend0 P #[t, tx] #[.slice a n c, .slice a' n' c'] H := rfl
  rw [h0]
  unfold aAppend0 aNews app
  cases hi : P.info? e with
  | none => simp [hi] at hz
  | some i =>
    simp only [hi, Option.bind_some, Option.map_some, Option.some.injEq, decide_eq_true_eq] at hz hs hb
    subst hzs
    simp only [List.getElem?_toArray, List.getElem?_cons_zero, List.getElem?_cons_succ, ht, hi, hz, htx, hb, hs, true_and, if_true, aCells_cl, lenS]
    cases cl H z.cells.size (.slice a n c) with
    | none => rfl
    | some x =>
      cases cl H z.cells.size (.slice a' n' c') with
      | none => rfl
      | some y => rfl

/-- So many noughts behind nothing. -/
theorem append_zero_eq {t tx e : TypeId} {s : Nat} {z : Value} {q k : IntKind} (ht : P.underlying t = some (.slice e)) (htx : P.underlying tx = some (.int q)) (hz : zeroOf P e = some z) (hs : szOf P e = some s) (hb : ((P.info? e).map fun i => decide (i.bytes ≤ 1024)) = some true) (hzs : z.cells.size = s) (hs0 : 0 < s) (hc : z.cells.all closed1 = true)
    {n : Int} {H : AH} : aAppend P #[t, tx] #[.slice none 0 0, .int k n] H = if 0 < n ∧ n ≤ 1073741824 then some (.slice (some ⟨H.length, 0, none⟩) n.toNat s, H ++ [⟨(Builtin.zeroCells z.cells n.toNat).toList, .own⟩]) else none := by
  unfold zeroOf at hz
  unfold szOf at hs
  unfold aAppend
  cases hi : P.info? e with
  | none => simp [hi] at hz
  | some i =>
    simp only [hi, Option.bind_some, Option.map_some, Option.some.injEq, decide_eq_true_eq] at hz hs hb
    subst hzs
    simp only [List.getElem?_toArray, List.getElem?_cons_zero, List.getElem?_cons_succ, ht, htx, hi, hz, hb, hs, hs0, hc, true_and, and_true]
def slq (n : Nat) : Option Int → Option Int → Option Value
  | some l, some h => if 0 ≤ l ∧ l ≤ h ∧ h ≤ n then some (.slice none 0 0) else none
  | _, _ => none
theorem slq_some {n : Nat} {l h : Int} : slq n (some l) (some h) = if 0 ≤ l ∧ l ≤ h ∧ h ≤ n then some (.slice none 0 0) else none := rfl
/-! ### structs and slices made of given values -/
def fillP (pl : List (Nat × Nat)) : List Value → List (Nat × Value) → Option (List Value)
  | cs, [] => some cs
  | cs, (i, v) :: r => match pl[i]? with
    | some (off, size) => if v.cells.size = size ∧ off + size ≤ cs.length then fillP pl (splice cs off v.cells.toList) r else none
    | none => none
def fillQ (pl : List (Nat × Nat)) (cs : List Value) (p : Option (Nat × Nat)) (v : Value) (r : List (Nat × Value)) : Option (List Value) :=
  match p with
  | some (off, size) => if v.cells.size = size ∧ off + size ≤ cs.length then fillP pl (splice cs off v.cells.toList) r else none
  | none => none
theorem fillP_nil {pl : List (Nat × Nat)} {cs : List Value} : fillP pl cs [] = some cs := rfl
theorem fillP_cons {pl : List (Nat × Nat)} {cs : List Value} {i : Nat} {v : Value} {r : List (Nat × Value)} : fillP pl cs ((i, v) :: r) = fillQ pl cs pl[i]? v r := rfl
theorem fillQ_some {pl : List (Nat × Nat)} {cs : List Value} {off size : Nat} {v : Value} {r : List (Nat × Value)} : fillQ pl cs (some (off, size)) v r = if v.cells.size = size ∧ off + size ≤ cs.length then fillP pl (splice cs off v.cells.toList) r else none := rfl
theorem put_splice (v c : Array Value) (off : Nat) : (v.zipIdx.foldl (fun cs (x : Value × Nat) => cs.setIfInBounds (off + x.2) x.1) c).toList = splice c.toList off v.toList := by
  have e : ∀ (zs c : Array Value), zs.zipIdx.foldl (fun cs (x : Value × Nat) => cs.setIfInBounds (off + x.2) x.1) c = zs.toList.zipIdx.foldl (fun cs (x : Value × Nat) => cs.setIfInBounds (off + x.2) x.1) c := by
    intro zs c
    rw [← Array.foldl_toList, Array.toList_zipIdx]
  rw [e]
  have key : ∀ (l : List Value) (n : Nat) (c : Array Value), ((l.zipIdx n).foldl (fun cs (x : Value × Nat) => cs.setIfInBounds (off + x.2) x.1) c).toList = splice c.toList (off + n) l := by
    intro l
    induction l with
    | nil => intro n c; simp [splice_nil]
    | cons x l ih =>
      intro n c
      simp only [List.zipIdx_cons, List.foldl_cons]
      rw [ih]
      simp only [Array.toList_setIfInBounds, splice_cons, Nat.add_assoc]
  have := key v.toList 0 c
  simpa using this
theorem fill_list {place : Nat → Option (Nat × Nat)} {pl : List (Nat × Nat)} : ∀ {ps : List (Nat × Value)} {c : Array Value}, (∀ i, (∃ v, (i, v) ∈ ps) → place i = pl[i]?) → (Instr.fill place c ps) = (fillP pl c.toList ps).map List.toArray
  | [], c, _ => by simp [Instr.fill, fillP]
  | (i, v) :: r, c, h => by
    simp only [Instr.fill, fillP, h i ⟨v, by simp⟩]
    cases hp : pl[i]? with
    | none => rfl
    | some x =>
      obtain ⟨off, size⟩ := x
      simp only [Array.length_toList]
      by_cases hc : v.cells.size = size ∧ off + size ≤ c.size
      · rw [if_pos hc, if_neg]
        · rw [fill_list fun j hj => h j (by obtain ⟨w, hw⟩ := hj; exact ⟨w, by simp [hw]⟩)]
          have := put_splice v.cells c off
          rw [← this]
        · simp only [ne_eq, Bool.or_eq_true, decide_eq_true_eq]
          omega
      · rw [if_neg hc, if_pos]
        · rfl
        · simp only [ne_eq, Bool.or_eq_true, decide_eq_true_eq]
          omega
theorem build_eq {t : TypeId} {fs : Array Field} {z : Value} {pl : List (Nat × Nat)} {zc : List Value} (ht : P.underlying t = some (.struct fs)) (hz : zeroOf P t = some z) (hc : closed z = true) (hp : (aPlaces P fs).map Array.toList = some pl) (hzc : z.cells.toList = zc) {ps : Array (Nat × Value)} :
    aBuild P t ps = (fillP pl zc ps.toList).map fun cs => .agg cs.toArray := by
  unfold aBuild
  simp only [ht, hz, hc, if_true]
  cases hq : aPlaces P fs with
  | none => rw [hq] at hp; cases hp
  | some places =>
    rw [hq] at hp
    simp only [Option.map_some, Option.some.injEq] at hp
    subst hp
    subst hzc
    simp only
    rw [fill_list (pl := places.toList) fun i _ => by simp]
    cases fillP places.toList z.cells.toList ps.toList <;> rfl
theorem bslice_eq {t e : TypeId} {n s : Nat} {z : Value} {pl : List (Nat × Nat)} {zc : List Value} {ev : Operand → Value} {ps : Array (Nat × Operand)} (ht : P.underlying t = some (.slice e)) (hs : szOf P e = some s) (hz : zeroOf P e = some z) (hl : n * s ≤ 16777216) (hc : z.cells.all closed1 = true) (hzc : (zfill z.cells (n * s)).toList = zc)
    (hpl : pl = (List.range n).map fun i => (i * s, s)) (hps : (ps.toList.all fun x => decide (x.1 < n)) = true) :
    aMake P ev (.buildSlice t n ps) = (fillP pl zc (ps.toList.map fun x => (x.1, ev x.2))).map fun cs => (cs, some (n, s)) := by
  unfold aMake
  simp only [ht, hs, hz, hl, hc, true_and, if_true]
  have e1 : (ps.map fun (x : Nat × Operand) => (x.1, ev x.2)).toList = ps.toList.map fun x => (x.1, ev x.2) := by simp
  have e2 : (ps.map fun (i, x) => (i, ev x)) = ps.map fun (x : Nat × Operand) => (x.1, ev x.2) := rfl
  rw [e2, e1, fill_list (pl := pl), hzc]
  · cases fillP pl zc (ps.toList.map fun x => (x.1, ev x.2)) <;> rfl
  · rintro i ⟨v, hv⟩
    simp only [List.mem_map, Prod.mk.injEq] at hv
    obtain ⟨x, hx, rfl, _⟩ := hv
    have := List.all_eq_true.1 hps x hx
    simp only [decide_eq_true_eq] at this
    rw [hpl]
    simp [this]
theorem sln_q {t e : TypeId} {n c s : Nat} {lo hi : Option Value} (ht : P.underlying t = some (.slice e)) (hs : szOf P e = some s) : aSlice P t (.slice none n c) lo hi = slq n (optInt 0 lo) (optInt n hi) := by
  rw [sln_eq ht hs]
  unfold slq
  cases optInt 0 lo <;> cases optInt (↑n) hi <;> rfl
theorem cap_nil {t e : TypeId} {n c : Nat} (ht : P.underlying t = some (.slice e)) : aCap P #[t] #[.slice none n c] = some (.int .i64 0) := by
  unfold aCap
  simp [ht]
theorem cells_app0 {s : Nat} {v : Value} {H : AH} {a : Option Addr} {c : Nat} {olds : List Value} (h : cl H s v = some olds) (h2 : cl H s (.slice a 0 c) = some []) : app s v (.slice a 0 c) H = some (v, H) := by
  unfold app
  rw [h, h2]
  simp [lenS]
/-! ### numbers -/
variable {t : TypeId} {x y : Operand} {k : IntKind} {a b : Int}
theorem most_max : aMost aMax2 [.int k a, .int k b] = some (.int k (if b > a then b else a)) := by
  simp [aMost, scal1, aFold, aMax2, told]
theorem most_min : aMost aMin2 [.int k a, .int k b] = some (.int k (if b < a then b else a)) := by
  simp [aMost, scal1, aFold, aMin2, told]
end
end Go.Proofs.Ytdagncfnkenbfaa.AM
/- The abstract machine: structs that are compared. -/
namespace Go.Proofs.Ytdagncfnkenbfaa.AM
open Go

section
variable {P : Program}
theorem runP_program : runP P program = some P := rfl
theorem runP_pure {α : Type} {a : α} : runP P (pure a : Sem α) = some a := rfl
theorem runP_ite {α : Type} {c : Prop} [Decidable c] {s t : Sem α} : runP P (if c then s else t) = if c then runP P s else runP P t := by split <;> rfl
theorem runP_struct (d : Nat) (t : TypeId) (xs ys : Array Value) {fs : Array Field} (ht : P.underlying t = some (.struct fs)) (hp : P.stoodInHeld t = false) :
    runP P (Op.equalIn (d + 1) t (.agg xs) (.agg ys)) = runP P (Op.eqFields d xs ys fs.toList) := by
  simp only [Op.equalIn, runP_bind, runP_und ht, Option.bind_some, runP_program, hp, Bool.false_eq_true, if_false]
  rw [← Array.forIn_toList]
  generalize fs.toList = l
  clear ht
  induction l with
  | nil => rfl
  | cons f l ih =>
    simp only [List.forIn_cons, Op.eqFields, runP_bind, runP_ite]
    split
    · cases runP P (part f.type xs f.offset) with
      | none => rfl
      | some a =>
        simp only [Option.bind_some]
        cases runP P (part f.type ys f.offset) with
        | none => rfl
        | some b =>
          simp only [Option.bind_some]
          cases runP P (Op.equalIn d f.type a b) with
          | none => rfl
          | some r =>
            cases r
            · rfl
            · simp only [Option.bind_some, Bool.not_true, Bool.false_eq_true, if_false, runP_pure]
              exact ih
    · simp only [Option.bind_some, runP_pure]
      exact ih
theorem runP_equal_int {d : Nat} {t : TypeId} {k k' : IntKind} {a b : Int} (h : P.underlying t = some (.int k')) : runP P (Op.equalIn (d + 1) t (.int k a) (.int k b)) = some (a == b) := by
  simp [Op.equalIn, runP_bind, runP_und h, runP, pure]
theorem bin_eql_agg {t : TypeId} {x y : Operand} {xs ys : Array Value} {fs : Array Field} {r : Bool} (ht : P.underlying t = some (.struct fs)) (hp : P.stoodInHeld t = false) (hm : P.eqGuardType P.depth t = false) (hx : (xs.all scal1 && ys.all scal1) = true)
    (hr : runP P (Op.eqFields 9999 xs ys fs.toList) = some r) : aBin P .eql t x y (.agg xs) (.agg ys) = some (.bool r) := by
  unfold aBin
  simp only [scal, hx, if_true, runP_bind]
  have e1 : runP P (eqGuard .eql t x y (.agg xs) (.agg ys)) = some () := by
    simp [eqGuard, runP_bind, runP_program, hm, runP, pure]
  have e2 : runP P (binOp .eql t (.agg xs) (.agg ys)) = some (.bool r) := by
    simp only [binOp, runP_bind, Op.equal, Op.maxDepth]
    rw [runP_struct 9999 t xs ys ht hp, hr]
    rfl
  rw [e1, Option.bind_some, e2]
  rfl
theorem bin_neq_agg {t : TypeId} {x y : Operand} {xs ys : Array Value} {fs : Array Field} {r : Bool} (ht : P.underlying t = some (.struct fs)) (hp : P.stoodInHeld t = false) (hm : P.eqGuardType P.depth t = false) (hx : (xs.all scal1 && ys.all scal1) = true)
    (hr : runP P (Op.eqFields 9999 xs ys fs.toList) = some r) : aBin P .neq t x y (.agg xs) (.agg ys) = some (.bool (!r)) := by
  unfold aBin
  simp only [scal, hx, if_true, runP_bind]
  have e1 : runP P (eqGuard .neq t x y (.agg xs) (.agg ys)) = some () := by
    simp [eqGuard, runP_bind, runP_program, hm, runP, pure]
  have e2 : runP P (binOp .neq t (.agg xs) (.agg ys)) = some (.bool (!r)) := by
    simp only [binOp, runP_bind, Op.equal, Op.maxDepth]
    rw [runP_struct 9999 t xs ys ht hp, hr]
    rfl
  rw [e1, Option.bind_some, e2]
  rfl
/-- A struct whose fields are ints of one cell. -/
theorem eqF_cons {d : Nat} {xs ys : Array Value} {f : Field} {l : List Field} {a b : Int} {k k' : IntKind} (hn : f.name ≠ "_") (hu : P.underlying f.type = some (.int k')) (ha : runP P (part f.type xs f.offset) = some (.int k a)) (hb : runP P (part f.type ys f.offset) = some (.int k b)) :
    runP P (Op.eqFields (d + 1) xs ys (f :: l)) = if (a == b) = true then runP P (Op.eqFields (d + 1) xs ys l) else some false := by
  simp only [Op.eqFields]
  rw [if_pos hn]
  simp only [runP_bind, ha, hb, Option.bind_some, runP_equal_int hu, runP_ite]
  cases (a == b) <;> rfl
theorem eqF_nil {d : Nat} {xs ys : Array Value} : runP P (Op.eqFields d xs ys []) = some true := rfl
theorem ite_and {a b : Bool} : (if a = true then some b else some false) = some (a && b) := by cases a <;> rfl

/-! ### bits -/
def andI (k : IntKind) (a b : Int) : Int := k.wrap ((BitVec.ofInt k.bits a &&& BitVec.ofInt k.bits b).toNat : Int)
def xorI (k : IntKind) (a b : Int) : Int := k.wrap ((BitVec.ofInt k.bits a ^^^ BitVec.ofInt k.bits b).toNat : Int)
theorem bin_and {t : TypeId} {x y : Operand} {k : IntKind} {a b : Int} : aBin P .and t x y (.int k a) (.int k b) = some (.int k (andI k a b)) := by
  simp [aBin, scal, scal1, eqGuard, binOp, Op.intBits, runP, told, pure, bind, Sem.bind, andI]
theorem bin_xor {t : TypeId} {x y : Operand} {k : IntKind} {a b : Int} : aBin P .xor t x y (.int k a) (.int k b) = some (.int k (xorI k a b)) := by
  simp [aBin, scal, scal1, eqGuard, binOp, Op.intBits, runP, told, pure, bind, Sem.bind, xorI]
theorem bin_shr {t : TypeId} {x y : Operand} {k k' : IntKind} {a b : Int} (h : ¬ b < 0) : aBin P .shr t x y (.int k a) (.int k' b) = some (.int k (a.fdiv (2 ^ (min b.toNat k.bits)))) := by
  simp [aBin, scal, scal1, eqGuard, binOp, Op.shift, runP, told, pure, bind, Sem.bind, h]
theorem and_le {a : Int} {m : Nat} (hm : m < 9223372036854775808) : 0 ≤ andI .i64 a m ∧ andI .i64 a m ≤ m := by
  have h1 : (BitVec.ofInt IntKind.i64.bits a &&& BitVec.ofInt IntKind.i64.bits (m : Int)).toNat ≤ m := by
    rw [BitVec.toNat_and]
    refine Nat.le_trans Nat.and_le_right ?_
    show (BitVec.ofInt 64 (m : Int)).toNat ≤ m
    rw [BitVec.toNat_ofInt]
    omega
  unfold andI
  rw [IntWalk.i64_in _ (by omega)]
  omega
theorem aNil_ptr {a : Addr} : aNil (.pointer (some a)) = some (.pointer (some a)) := rfl
end

/-! ### ways that meet again -/
theorem kOps_monoQ {P : Program} {Φ Ψ : Tm → AH → Prop} (hm : ∀ tm H, Φ tm H → Ψ tm H) : ∀ {l : List KO} {tm : Tm} {H : AH}, kOps P l tm H Φ → kOps P l tm H Ψ
  | [], tm, H, h => hm tm H h
  | k :: r, tm, H, h => by
    simp only [kOps] at h ⊢
    split
    · rename_i hw
      rw [if_pos hw] at h
      exact h.mono fun v H' hh => kOps_monoQ hm hh
    · rename_i hw
      rw [if_neg hw] at h
      exact kOps_monoQ hm h
theorem kDraw_monoQ {P : Program} {prs : List (Nat × Nat)} {Φ Ψ : Tm → AH → Prop} (hm : ∀ tm H, Φ tm H → Ψ tm H) : ∀ {l : List KO} {i : Nat} {tm : Tm} {H : AH} {hist : List (Nat × AH)} {pend : List (Nat × Op × Value × Value)}, kDraw P prs i l tm H hist pend Φ → kDraw P prs i l tm H hist pend Ψ
  | [], i, tm, H, hist, pend, h => hm tm H h
  | k :: r, i, tm, H, hist, pend, h => by
    simp only [kDraw] at h ⊢
    split
    · rename_i hw
      rw [if_pos hw] at h
      split
      · rename_i x hx
        simp only [hx] at h
        exact optW_mono h fun v hh => ⟨hh.1, kDraw_monoQ hm hh.2⟩
      · rename_i hx
        simp only [hx] at h
        split
        · rename_i hE
          rw [if_pos hE] at h
          exact h.mono fun v H' hh => ⟨hh.1, kDraw_monoQ hm hh.2⟩
        · rename_i hE
          rw [if_neg hE] at h
          exact h.mono fun v H' hh => kDraw_monoQ hm hh
    · rename_i hw
      rw [if_neg hw] at h
      split
      · rename_i hE
        rw [if_pos hE] at h
        exact ⟨h.1, kDraw_monoQ hm h.2⟩
      · rename_i hE
        rw [if_neg hE] at h
        exact kDraw_monoQ hm h
theorem kW_monoQ {P : Program} : ∀ {c : KC} {tm : Tm} {H : AH} {Q R : Post}, (∀ ex tm H, Q ex tm H → R ex tm H) → kW P c tm H Q → kW P c tm H R
  | .skip, tm, H, Q, R, hm, h => hm _ _ _ h
  | .exit id, tm, H, Q, R, hm, h => hm _ _ _ h
  | .ret, tm, H, Q, R, hm, h => hm _ _ _ h
  | .ops l, tm, H, Q, R, hm, h => kOps_monoQ (hm _) h
  | .draw _ prs l, tm, H, Q, R, hm, h => kDraw_monoQ (hm _) h
  | .seq a b, tm, H, Q, R, hm, h => by
    refine kW_monoQ (c := a) (fun ex tm H hh => ?_) h
    cases ex with
    | normal => exact kW_monoQ (c := b) hm hh
    | _ => exact hm _ _ _ hh
  | .cond c a b, tm, H, Q, R, hm, h => by
    simp only [kW] at h ⊢
    split
    · rename_i t ht
      simp only [ht] at h
      exact ⟨fun e => kW_monoQ (c := a) hm (h.1 e), fun e => kW_monoQ (c := b) hm (h.2 e)⟩
    · rename_i hn
      split at h
      · rename_i t ht
        exact hn t ht
      · exact h
  | .block id c, tm, H, Q, R, hm, h => by
    refine kW_monoQ (c := c) (fun ex tm H hh => ?_) h
    cases ex with
    | exit i =>
      simp only at hh ⊢
      split
      · rename_i e; rw [if_pos e] at hh; exact hm _ _ _ hh
      · rename_i e; rw [if_neg e] at hh; exact hm _ _ _ hh
    | _ => exact hm _ _ _ hh
  | .loop c, tm, H, Q, R, hm, h => by
    obtain ⟨I, n, h0, hs⟩ := h
    refine ⟨I, n, h0, fun n tm H hI => kW_monoQ (c := c) (fun ex tm H hh => ?_) (hs n tm H hI)⟩
    cases ex with
    | normal => exact hh
    | _ => exact hm _ _ _ hh
  | .bad, tm, H, Q, R, hm, h => h.elim
/-- All ways through 'c' meet in 'J'. -/
theorem rW_join {P : Program} {c b : KC} {s : List Fr} {Q : Post} {tm : Tm} {H : AH} (J : Tm → AH → Prop) (h1 : rW P c [] (lpK P J (.seq b :: s) Q) tm H) (h2 : ∀ tm H, J tm H → rW P b s Q tm H) : rW P c (.seq b :: s) Q tm H :=
  kW_monoQ (fun ex tm H hh => by cases ex <;> first | exact h2 tm H hh | exact hh) h1
theorem kK_monoQ {P : Program} : ∀ {s : List Fr} {ex : Ex} {tm : Tm} {H : AH} {Q R : Post}, (∀ ex tm H, Q ex tm H → R ex tm H) → kK P s Q ex tm H → kK P s R ex tm H
  | [], ex, tm, H, Q, R, hm, h => hm _ _ _ h
  | .seq b :: s, ex, tm, H, Q, R, hm, h => by
    cases ex with
    | normal => exact kW_monoQ (c := b) (fun ex tm H hh => kK_monoQ (s := s) hm hh) h
    | ret => exact kK_monoQ (s := s) (ex := .ret) hm h
    | exit i => exact kK_monoQ (s := s) (ex := .exit i) hm h
  | .blk id :: s, ex, tm, H, Q, R, hm, h => by
    cases ex with
    | normal => exact kK_monoQ (s := s) (ex := .normal) hm h
    | ret => exact kK_monoQ (s := s) (ex := .ret) hm h
    | exit i =>
      simp only [kK] at h ⊢
      split
      · rename_i e; rw [if_pos e] at h; exact kK_monoQ (s := s) hm h
      · rename_i e; rw [if_neg e] at h; exact kK_monoQ (s := s) hm h
theorem rO_join1 {P : Program} {l : List KO} {f : Fr} {b : KC} {s : List Fr} {Q : Post} {tm : Tm} {H : AH} (J : Tm → AH → Prop) (h1 : rO P l [f] (lpK P J (.seq b :: s) Q) tm H) (h2 : ∀ tm H, J tm H → rW P b s Q tm H) : rO P l (f :: .seq b :: s) Q tm H := by
  refine kOps_monoQ (fun tm H hh => ?_) h1
  have hm : ∀ ex tm H, lpK P J (.seq b :: s) Q ex tm H → kK P (.seq b :: s) Q ex tm H := fun ex tm H hh => by cases ex <;> first | exact h2 tm H hh | exact hh
  have := kK_monoQ (s := [f]) hm hh
  cases f <;> exact this
end Go.Proofs.Ytdagncfnkenbfaa.AM
