/- The abstract machine: calls are sound; what is to be shown of a function, as equations. -/
import Derived.Test.YtdagncfnkenbfaaA4
import Derived.IntWalk
set_option linter.unusedVariables false
set_option linter.unusedSimpArgs false
set_option linter.defProp false
/- The abstract machine, nineteenth part: calls. -/
namespace Go.Proofs.Ytdagncfnkenbfaa.AM
open Go

def aRes1 (P : Program) (tm : Tm) (G : Hp) : ResultVar → Option Value
  | .tmp t => some (tm t)
  | .cell a t => aLoad P t (tm a) G
def aResL (P : Program) (tm : Tm) (G : Hp) : List ResultVar → Option (List Value)
  | [] => some []
  | r :: rs => (aRes1 P tm G r).bind fun v => (aResL P tm G rs).map fun vs => v :: vs
def tup : List Value → Value
  | [v] => v
  | vs => .tuple vs.toArray
def aRes (P : Program) (fn : Func) (tm : Tm) (G : Hp) : Option Value := (aResL P tm G fn.results.toList).map tup

def resF (tmps : Array Value) : ResultVar → Sem Value
  | .tmp t => pure (tmps.getD t undef)
  | .cell b t => do loadVar t (← asAddr (tmps.getD b undef))
theorem results_eq (fn : Func) (tmps : Array Value) : results fn tmps = (do let vs ← fn.results.mapM (resF tmps); pure (if h : vs.size = 1 then vs[0] else .tuple vs)) := by
  unfold results
  congr 1

def fnOk (fn : Func) (c : Code) : Bool := codeOk fn.ntmps c && !(fn.name == "runtime.NumGoroutine")

noncomputable def aCall (P : Program) : Nat → CallF
  | 0 => fun _ _ _ => none
  | k + 1 => fun f args H =>
    match P.funcs[f]? with
    | some fn =>
      match fn.body with
      | some c =>
        if fnOk fn c then
          match aCode P (aCall P k) k c (fun i => args.getD i undef) H with
          | some (.normal, tm, H') => (aRes P fn tm H'.get).map fun v => (v, H')
          | some (.ret, tm, H') => (aRes P fn tm H'.get).map fun v => (v, H')
          | _ => none
        else none
      | none => none
    | none => none

section
variable {P : Program} {ρ : Rho} {w : World} {G : Hp} {tm : Tm} {a : Act} {N : Nat}

theorem resL_sound (h : HR ρ G w) (ht : TR ρ tm a N) : ∀ (rs : List ResultVar) (vs : List Value), aResL P tm G rs = some vs →
    ∃ vs', VL ρ vs vs' ∧ (rs.mapM (resF a.tmps)).run P w = .ok vs' w
  | [], vs, h1 => by
    simp only [aResL, Option.some.injEq] at h1
    subst h1
    exact ⟨[], VL.nil, by simp⟩
  | r :: rs, vs, h1 => by
    simp only [aResL, Option.bind_eq_some_iff, Option.map_eq_some_iff] at h1
    obtain ⟨v, hv, vs1, h2, rfl⟩ := h1
    obtain ⟨vs', hr, hrun⟩ := resL_sound h ht rs vs1 h2
    cases r with
    | tmp t =>
      simp only [aRes1, Option.some.injEq] at hv
      subst hv
      exact ⟨a.tmps.getD t undef :: vs', VL.cons (ht.get t) hr, by simp only [List.mapM_cons, resF, pure_bind, Sem.run_bind, hrun, Result.andThen_ok, Sem.run_pure]⟩
    | cell b t =>
      simp only [aRes1] at hv
      obtain ⟨v', hr', hrun'⟩ := load_sound (P := P) h (ht.get b) hv
      refine ⟨v' :: vs', VL.cons hr' hr, ?_⟩
      have hb := ht.get b
      unfold aLoad at hv
      split at hv
      case h_2 => cases hv
      rename_i bb oo hbb
      rw [hbb] at hb
      generalize hz : a.tmps.getD b undef = z at hb hrun'
      cases hb
      rename_i l _
      have hz2 : (loadVar t (l.base.add oo)).run P w = .ok v' w := by simpa [Instr.loadAt, Instr.sureAddr] using hrun'
      simp only [List.mapM_cons, resF, hz, asAddr, pure_bind, Sem.run_bind, hz2, Result.andThen_ok, hrun, Sem.run_pure]

theorem tup_rel {vs vs' : List Value} (h : VL ρ vs vs') : VR ρ (tup vs) (if hh : vs'.toArray.size = 1 then vs'.toArray[0] else .tuple vs'.toArray) := by
  by_cases hh : vs'.toArray.size = 1
  · rw [dif_pos hh]
    have hl : vs'.length = 1 := by simpa using hh
    have hl2 : vs.length = 1 := by rw [h.1]; exact hl
    obtain ⟨v, rfl⟩ := List.length_eq_one_iff.1 hl2
    obtain ⟨v', rfl⟩ := List.length_eq_one_iff.1 hl
    exact h.2 0 v v' rfl rfl
  · rw [dif_neg hh]
    have hl : vs.length ≠ 1 := by rw [h.1]; simpa using hh
    have : tup vs = .tuple vs.toArray := by
      unfold tup
      split
      · simp at hl
      · rfl
    rw [this]
    exact VR.tupL (by simpa using h)

theorem res_sound {fn : Func} {v : Value} (h : HR ρ G w) (ht : TR ρ tm a N) (hv : aRes P fn tm G = some v) : ∃ v', VR ρ v v' ∧ (results fn a.tmps).run P w = .ok v' w := by
  unfold aRes at hv
  simp only [Option.map_eq_some_iff] at hv
  obtain ⟨vs, h1, rfl⟩ := hv
  obtain ⟨vs', hr, hrun⟩ := resL_sound (P := P) h ht _ _ h1
  refine ⟨_, tup_rel hr, ?_⟩
  rw [results_eq, Array.mapM_eq_mapM_toList]
  simp only [Sem.run_bind, Sem.run_map, hrun, Result.andThen_ok, Sem.run_pure]

theorem init_rel {args args' : Array Value} {n : Nat} (h : VL ρ args.toList args'.toList) : TR ρ (fun i => args.getD i undef) { tmps := args' ++ Array.replicate (n - args'.size) undef, defers := [] } n := by
  refine ⟨by simp; omega, fun t => ?_⟩
  have hsz : args.size = args'.size := by simpa using h.1
  simp only [Array.getD_eq_getD_getElem?]
  by_cases ht : t < args'.size
  · rw [Array.getElem?_append_left ht]
    have h1 : args[t]? = some args[t] := Array.getElem?_eq_getElem (by omega)
    have h2 : args'[t]? = some args'[t] := Array.getElem?_eq_getElem ht
    rw [h1, h2]
    exact h.2 t _ _ (by rw [Array.getElem?_toList]; exact h1) (by rw [Array.getElem?_toList]; exact h2)
  · rw [Array.getElem?_eq_none (by omega), Array.getElem?_append_right (by omega), Array.getElem?_replicate]
    split <;> exact undef_refl

theorem call_sound (hm : P.follows .mixedOrders = true) : ∀ k, CallSound P (aCall P k) := by
  intro k
  induction k with
  | zero => intro g args H r H' h; simp [aCall] at h
  | succ k ih =>
    intro f args H r H' h
    simp only [aCall] at h
    split at h
    case h_2 => cases h
    rename_i fn hfn
    split at h
    case h_2 => cases h
    rename_i c hb
    split at h
    case isFalse => cases h
    rename_i hok
    simp only [fnOk, Bool.and_eq_true, Bool.not_eq_true'] at hok
    have fin : ∀ ex tm, (ex = .normal ∨ ex = .ret) → aCode P (aCall P k) k c (fun i => args.getD i undef) H = some (ex, tm, H') → aRes P fn tm H'.get = some r → H.length ≤ H'.length ∧ ∀ (ρ : Rho) (w : World) (args' : Array Value), VL ρ args.toList args'.toList → HR ρ H.get w → Fresh ρ H.length H'.length →
        (∃ fn, P.funcs[f]? = some fn ∧ fn.body.isSome = true ∧ (fn.name == "runtime.NumGoroutine") = false) ∧
        Calls P f args' w fun e w' => ∃ r' ρ', e = .returned r' ∧ VR ρ' r r' ∧ HR ρ' H'.get w' ∧ Stp H.length H'.length ρ H.get w ρ' H'.get w' := by
      intro ex tm hex hc hres
      refine ⟨code_le ih _ _ _ _ _ _ _ hc, fun ρ w args' hargs hr hf => ⟨⟨fn, hfn, by rw [hb]; rfl, hok.2⟩, ?_⟩⟩
      refine calls_of_wp hfn hb ?_
      refine code_sound ih hm k c _ tm H H' ex hok.1 hc ρ w _ _ hf hr (init_rel hargs) ?_
      intro a' w' ρ' hd ht hh hs
      obtain ⟨v', hv, hrun⟩ := res_sound (P := P) (fn := fn) hh ht hres
      have hpost : a'.defers = [] ∧ ∃ v, (results fn a'.tmps).run P w' = .ok v w' ∧ ∃ r' ρ', Ending.returned v = .returned r' ∧ VR ρ' r r' ∧ HR ρ' H'.get w' ∧ Stp H.length H'.length ρ H.get w ρ' H'.get w' :=
        ⟨hd, v', hrun, v', ρ', rfl, hv, hh, hs⟩
      rcases hex with rfl | rfl <;> exact hpost
    split at h
    · rename_i tm H1 hc
      simp only [Option.map_eq_some_iff, Prod.mk.injEq] at h
      obtain ⟨v, hv, rfl, rfl⟩ := h
      exact fin _ tm (.inl rfl) hc hv
    · rename_i tm H1 hc
      simp only [Option.map_eq_some_iff, Prod.mk.injEq] at h
      obtain ⟨v, hv, rfl, rfl⟩ := h
      exact fin _ tm (.inr rfl) hc hv
    · cases h
end
end Go.Proofs.Ytdagncfnkenbfaa.AM
/- The abstract machine, twentieth part: more rounds tell the same. -/
namespace Go.Proofs.Ytdagncfnkenbfaa.AM
open Go

def LeC (c c' : CallF) : Prop := ∀ g args H x, c g args H = some x → c' g args H = some x

section
variable {P : Program} {call call' : CallF}

theorem op_mono (h : LeC call call') {ev : Operand → Value} {o : Op} {H : AH} {x : Value × AH} (ho : aOp P call ev o H = some x) : aOp P call' ev o H = some x := by
  cases o with
  | call c =>
    obtain ⟨callee, xs, ts⟩ := c
    cases callee with
    | builtin b => cases b <;> exact ho
    | value f =>
      simp only [aOp] at ho ⊢
      split at ho
      · exact h _ _ _ _ ho
      · cases ho
    | invoke r m => exact ho
  | _ => exact ho

theorem step_mono (h : LeC call call') {ops : Array Oper} {o : Oper} {tm : Tm} {H : AH} {x : Tm × AH} (ho : aStep P call ops o tm H = some x) : aStep P call' ops o tm H = some x := by
  unfold aStep at ho ⊢
  split at ho
  · rename_i hw
    simp only [Option.map_eq_some_iff] at ho
    obtain ⟨y, h1, rfl⟩ := ho
    simp only [hw, if_true, op_mono h h1, Option.map_some]
  · rename_i hw
    simp only [hw, if_false]; exact ho

theorem seq_mono (h : LeC call call') {ops : Array Oper} : ∀ {l : List Oper} {tm : Tm} {H : AH} {x : Tm × AH}, aSeq P call ops l tm H = some x → aSeq P call' ops l tm H = some x
  | [], _, _, _, ho => ho
  | o :: r, _, _, _, ho => by
    simp only [aSeq, Option.bind_eq_some_iff] at ho ⊢
    obtain ⟨y, h1, h2⟩ := ho
    exact ⟨y, step_mono h h1, seq_mono h h2⟩

theorem pre_some {ops : Array Oper} {tm : Tm} {H : AH} {x : Tm × AH} (ho : aSeq P call ops ops.toList tm H = some x) (i : Nat) : ∃ y, preT P call ops tm H i = some y := by
  have := aSeq_append (P := P) (call := call) (ops := ops) (ops.toList.take i) (ops.toList.drop i) tm H
  rw [List.take_append_drop, ho] at this
  unfold preT
  cases hx : aSeq P call ops (ops.toList.take i) tm H with
  | none => rw [hx] at this; simp at this
  | some y => exact ⟨y, rfl⟩

theorem region_mono (h : LeC call call') {ops : Array Oper} {draw : Bool} {tm : Tm} {H : AH} {x : Tm × AH} (ho : aRegion P call ops draw tm H = some x) : aRegion P call' ops draw tm H = some x := by
  obtain ⟨hd, hs⟩ := aRegion_some ho
  have hs' := seq_mono h hs
  have hpre : ∀ i, preT P call' ops tm H i = preT P call ops tm H i := by
    intro i
    obtain ⟨y, hy⟩ := pre_some hs i
    rw [hy]
    exact seq_mono h hy
  unfold aRegion
  rw [if_neg]
  · exact hs'
  · rintro ⟨hdr, hn⟩
    refine hn ⟨(hd hdr).1, ?_⟩
    have hst := (hd hdr).2
    unfold Stable at hst ⊢
    simp only [tT, hT, hpre]
    exact hst

theorem code_mono (h : LeC call call') : ∀ (k k' : Nat) (c : Code) (tm : Tm) (H : AH) (x : Ex × Tm × AH), k ≤ k' → aCode P call k c tm H = some x → aCode P call' k' c tm H = some x := by
  intro k
  induction k with
  | zero => intro k' c tm H x _ h; simp [aCode] at h
  | succ k ih =>
    intro k' c tm H x hk hx
    cases k' with
    | zero => omega
    | succ k' =>
      have hk' : k ≤ k' := by omega
      cases c with
      | region id ops draw =>
        simp only [aCode, Option.map_eq_some_iff] at hx ⊢
        obtain ⟨y, h1, h2⟩ := hx
        exact ⟨y, region_mono h h1, h2⟩
      | seq a b =>
        simp only [aCode] at hx ⊢
        cases h1 : aCode P call k a tm H with
        | none => rw [h1] at hx; cases hx
        | some y =>
          obtain ⟨e, tm1, H1⟩ := y
          rw [ih k' a tm H _ hk' h1]
          cases e with
          | normal => rw [h1] at hx; exact ih k' b tm1 H1 x hk' hx
          | _ => rw [h1] at hx; exact hx
      | cond c a b =>
        simp only [aCode] at hx ⊢
        split at hx
        · exact ih k' a tm H x hk' hx
        · exact ih k' b tm H x hk' hx
        · cases hx
      | block id c =>
        simp only [aCode] at hx ⊢
        cases h1 : aCode P call k c tm H with
        | none => rw [h1] at hx; cases hx
        | some y =>
          obtain ⟨e, tm1, H1⟩ := y
          rw [ih k' c tm H _ hk' h1]
          rw [h1] at hx
          cases e <;> exact hx
      | loop c =>
        simp only [aCode] at hx ⊢
        cases h1 : aCode P call k c tm H with
        | none => rw [h1] at hx; cases hx
        | some y =>
          obtain ⟨e, tm1, H1⟩ := y
          rw [ih k' c tm H _ hk' h1]
          cases e with
          | normal => rw [h1] at hx; exact ih k' (.loop c) tm1 H1 x hk' hx
          | _ => rw [h1] at hx; exact hx
      | _ => simp only [aCode] at hx ⊢ <;> exact hx

theorem call_mono1 : ∀ k, LeC (aCall P k) (aCall P (k + 1)) := by
  intro k
  induction k with
  | zero => intro g args H x h; simp [aCall] at h
  | succ k ih =>
    intro g args H x h
    simp only [aCall] at h
    show (match P.funcs[g]? with | some fn => _ | none => none) = some x
    split at h
    case h_2 => cases h
    rename_i fn hfn
    split at h
    case h_2 => cases h
    rename_i c hb
    split at h
    case isFalse => cases h
    rename_i hok
    simp only [hfn, hb, hok, if_true]
    cases h1 : aCode P (aCall P k) k c (fun i => args.getD i undef) H with
    | none => rw [h1] at h; cases h
    | some y =>
      obtain ⟨e, tm1, H1⟩ := y
      have := code_mono ih k (k + 1) c _ H _ (by omega) h1
      simp only [aCall] at this ⊢
      rw [this]
      rw [h1] at h
      exact h
theorem call_mono {k k' : Nat} (hk : k ≤ k') : LeC (aCall P k) (aCall P k') := by
  induction k' with
  | zero => have : k = 0 := by omega
            subst this; exact fun _ _ _ _ h => h
  | succ k' ih =>
    by_cases e : k = k' + 1
    · subst e; exact fun _ _ _ _ h => h
    · exact fun g args H x h => call_mono1 k' g args H x (ih (by omega) g args H x h)
end
end Go.Proofs.Ytdagncfnkenbfaa.AM
/- The abstract machine, last part: what is to be shown of a function, as one proposition that is reckoned out of its code. -/
namespace Go.Proofs.Ytdagncfnkenbfaa.AM
open Go

def optW {α : Type} (x : Option α) (Φ : α → Prop) : Prop := match x with | some a => Φ a | none => False
theorem optW_some {α : Type} (a : α) (Φ : α → Prop) : optW (some a) Φ = Φ a := rfl
theorem optW_spec {α : Type} {x : Option α} {Φ : α → Prop} (h : optW x Φ) : ∃ a, x = some a ∧ Φ a := by
  cases x with
  | none => exact h.elim
  | some a => exact ⟨a, rfl, h⟩

def CallsA (P : Program) (f : FuncId) (args : Array Value) (H : AH) (Φ : Value → AH → Prop) : Prop := ∃ k r H', aCall P k f args H = some (r, H') ∧ Φ r H'
def BW (P : Program) (c : Code) (tm : Tm) (H : AH) (Q : Ex → Tm → AH → Prop) : Prop := ∃ k ex tm' H', aCode P (aCall P k) k c tm H = some (ex, tm', H') ∧ Q ex tm' H'

theorem CallsA.mono {P : Program} {f : FuncId} {args : Array Value} {H : AH} {Φ Ψ : Value → AH → Prop} (h : CallsA P f args H Φ) (hm : ∀ r H', Φ r H' → Ψ r H') : CallsA P f args H Ψ := by
  obtain ⟨k, r, H', h1, h2⟩ := h
  exact ⟨k, r, H', h1, hm r H' h2⟩
theorem BW.mono {P : Program} {c : Code} {tm : Tm} {H : AH} {Q R : Ex → Tm → AH → Prop} (h : BW P c tm H Q) (hm : ∀ ex tm' H', Q ex tm' H' → R ex tm' H') : BW P c tm H R := by
  obtain ⟨k, ex, tm', H', h1, h2⟩ := h
  exact ⟨k, ex, tm', H', h1, hm ex tm' H' h2⟩

def valCall : Op → Option (Operand × Array Operand)
  | .call ⟨.value f, xs, _⟩ => some (f, xs)
  | _ => none
def noCall : CallF := fun _ _ _ => none
def OpW (P : Program) (ev : Operand → Value) (o : Op) (H : AH) (Φ : Value → AH → Prop) : Prop :=
  match valCall o with
  | some (f, xs) => match ev f with | .func (.func g) first cap => CallsA P g (first ++ xs.map ev ++ cap) H Φ | _ => False
  | none => optW (aOp P noCall ev o H) fun x => Φ x.1 x.2

theorem aOp_nocall {P : Program} {o : Op} (h : valCall o = none) (c c' : CallF) (ev : Operand → Value) (H : AH) : aOp P c ev o H = aOp P c' ev o H := by
  cases o with
  | call x =>
    obtain ⟨callee, xs, ts⟩ := x
    cases callee with
    | builtin b => cases b <;> rfl
    | value f => simp [valCall] at h
    | invoke r m => rfl
  | _ => rfl
theorem aOp_val {P : Program} {o : Op} {f : Operand} {xs : Array Operand} (h : valCall o = some (f, xs)) (c : CallF) (ev : Operand → Value) (H : AH) {g : FuncId} {first cap : Array Value} (hf : ev f = .func (.func g) first cap) :
    aOp P c ev o H = c g (first ++ xs.map ev ++ cap) H := by
  cases o with
  | call x =>
    obtain ⟨callee, ys, ts⟩ := x
    cases callee with
    | value f' =>
      simp only [valCall, Option.some.injEq, Prod.mk.injEq] at h
      obtain ⟨rfl, rfl⟩ := h
      simp only [aOp, hf]
    | builtin b => simp [valCall] at h
    | invoke r m => simp [valCall] at h
  | _ => simp [valCall] at h

def OpsW (P : Program) (ops : Array Oper) : List Oper → Tm → AH → (Tm → AH → Prop) → Prop
  | [], tm, H, Φ => Φ tm H
  | o :: r, tm, H, Φ => if awanted ops o tm = true then OpW P (aev tm) o.op H fun v H' => OpsW P ops r (aput tm o.dst v) H' Φ else OpsW P ops r (aput tm o.dst undef) H Φ

def chkH (P : Program) (prs : List (Nat × Nat)) (i : Nat) (o : Op) (x v : Value) : List (Nat × AH) → Prop
  | [] => True
  | (p, Hp) :: r => ((i, p) ∈ prs → aRead P o x Hp.get = some v) ∧ chkH P prs i o x v r
def chkP (P : Program) (prs : List (Nat × Nat)) (p : Nat) (Hp : AH) : List (Nat × Op × Value × Value) → Prop
  | [] => True
  | (i, o, x, v) :: r => ((i, p) ∈ prs → aRead P o x Hp.get = some v) ∧ chkP P prs p Hp r

def OpsD (P : Program) (ops : Array Oper) (prs : List (Nat × Nat)) : Nat → List Oper → Tm → AH → List (Nat × AH) → List (Nat × Op × Value × Value) → (Tm → AH → Prop) → Prop
  | _, [], tm, H, _, _, Φ => Φ tm H
  | i, o :: r, tm, H, hist, pend, Φ =>
    if awanted ops o tm = true then
      match rdArg o.op with
      | some x => optW (aRead P o.op (aev tm x) H.get) fun v => chkH P prs i o.op (aev tm x) v hist ∧ OpsD P ops prs (i + 1) r (aput tm o.dst v) H hist ((i, o.op, aev tm x, v) :: pend) Φ
      | none =>
        if isE o.op = true then OpW P (aev tm) o.op H fun v H' => chkP P prs (i + 1) H' pend ∧ OpsD P ops prs (i + 1) r (aput tm o.dst v) H' ((i + 1, H') :: hist) pend Φ
        else OpW P (aev tm) o.op H fun v H' => OpsD P ops prs (i + 1) r (aput tm o.dst v) H' hist pend Φ
    else if isE o.op = true then chkP P prs (i + 1) H pend ∧ OpsD P ops prs (i + 1) r (aput tm o.dst undef) H ((i + 1, H) :: hist) pend Φ
    else OpsD P ops prs (i + 1) r (aput tm o.dst undef) H hist pend Φ

def bnds (ops : Array Oper) : List Nat := 0 :: ((List.range ops.size).filter fun e => ((ops[e]?).map fun o => isE o.op).getD false).map (· + 1)
def compatB (ops : Array Oper) (B : Array Nat) (i p : Nat) : Bool :=
  (List.range ops.size).all fun e => match ops[e]? with
    | some o => !(isE o.op) || ((!(befB B e i) || decide (e < p)) && (!(befB B i e) || decide (p ≤ e)))
    | none => true
def prsOk (ops : Array Oper) (prs : List (Nat × Nat)) : Bool :=
  let B := Region.before ops
  (List.range ops.size).all fun i => match ops[i]? with
    | some o => !(rdArg o.op).isSome || (bnds ops).all fun p => !(compatB ops B i p) || prs.contains (i, p)
    | none => true

abbrev Prs := Nat → List (Nat × Nat)

def codeSt (prs : Prs) : Code → Bool
  | .region id ops true => drawOk ops && prsOk ops (prs id)
  | .seq a b => codeSt prs a && codeSt prs b
  | .cond _ a b => codeSt prs a && codeSt prs b
  | .block _ c => codeSt prs c
  | .loop c => codeSt prs c
  | _ => true

def VC (P : Program) (prs : Prs) : Code → Tm → AH → (Ex → Tm → AH → Prop) → Prop
  | .skip, tm, H, Q => Q .normal tm H
  | .exit id, tm, H, Q => Q (.exit id) tm H
  | .ret, tm, H, Q => Q .ret tm H
  | .region _ ops false, tm, H, Q => OpsW P ops ops.toList tm H (Q .normal)
  | .region id ops true, tm, H, Q => OpsD P ops (prs id) 0 ops.toList tm H [(0, H)] [] (Q .normal)
  | .seq a b, tm, H, Q => VC P prs a tm H fun ex tm H => match ex with | .normal => VC P prs b tm H Q | ex => Q ex tm H
  | .cond c a b, tm, H, Q => match aev tm c with | .bool t => (t = true → VC P prs a tm H Q) ∧ (t = false → VC P prs b tm H Q) | _ => False
  | .block id c, tm, H, Q => VC P prs c tm H fun ex tm H => match ex with | .exit i => if i = id then Q .normal tm H else Q (.exit i) tm H | ex => Q ex tm H
  | .loop c, tm, H, Q => BW P (.loop c) tm H Q
  | _, _, _, _ => False

section
variable {P : Program}

theorem OpW.spec {ev : Operand → Value} {o : Op} {H : AH} {Φ : Value → AH → Prop} (h : OpW P ev o H Φ) : ∃ k v H', aOp P (aCall P k) ev o H = some (v, H') ∧ Φ v H' := by
  unfold OpW at h
  split at h
  · rename_i f xs hv
    split at h
    · rename_i g first cap hf
      obtain ⟨k, r, H', h1, h2⟩ := h
      exact ⟨k, r, H', by rw [aOp_val hv _ _ _ hf]; exact h1, h2⟩
    · exact h.elim
  · rename_i hv
    obtain ⟨x, h1, h2⟩ := optW_spec h
    exact ⟨0, x.1, x.2, by rw [aOp_nocall hv _ noCall]; exact h1, h2⟩
theorem OpW.mono {ev : Operand → Value} {o : Op} {H : AH} {Φ Ψ : Value → AH → Prop} (h : OpW P ev o H Φ) (hm : ∀ v H', Φ v H' → Ψ v H') : OpW P ev o H Ψ := by
  unfold OpW at h ⊢
  split at h
  · split at h
    · exact h.mono hm
    · exact h.elim
  · obtain ⟨x, h1, h2⟩ := optW_spec h
    rw [h1, optW_some]
    exact hm _ _ h2
theorem OpW.read {ev : Operand → Value} {o : Op} {x : Operand} {H : AH} {Φ : Value → AH → Prop} (hx : rdArg o = some x) (h : optW (aRead P o (ev x) H.get) fun v => Φ v H) : OpW P ev o H Φ := by
  obtain ⟨v, h1, h2⟩ := optW_spec h
  cases o <;> simp [rdArg] at hx <;> subst hx <;> simp only [aRead] at h1 <;> simp only [OpW, valCall, aOp, h1, Option.map_some, optW_some] <;> exact h2

theorem call_det {k k' : Nat} {g : FuncId} {args : Array Value} {H : AH} {x y : Value × AH} (h1 : aCall P k g args H = some x) (h2 : aCall P k' g args H = some y) : x = y := by
  have a1 := call_mono (P := P) (Nat.le_max_left k k') g args H x h1
  have a2 := call_mono (P := P) (Nat.le_max_right k k') g args H y h2
  rw [a1] at a2; cases a2; rfl
theorem op_det {k k' : Nat} {ev : Operand → Value} {o : Op} {H : AH} {x y : Value × AH} (h1 : aOp P (aCall P k) ev o H = some x) (h2 : aOp P (aCall P k') ev o H = some y) : x = y := by
  have a1 := op_mono (P := P) (call_mono (Nat.le_max_left k k')) h1
  have a2 := op_mono (P := P) (call_mono (Nat.le_max_right k k')) h2
  rw [a1] at a2; cases a2; rfl

theorem OpsW.spec {ops : Array Oper} : ∀ {l : List Oper} {tm : Tm} {H : AH} {Φ : Tm → AH → Prop}, OpsW P ops l tm H Φ → ∃ k tm' H', aSeq P (aCall P k) ops l tm H = some (tm', H') ∧ Φ tm' H'
  | [], tm, H, Φ, h => ⟨0, tm, H, rfl, h⟩
  | o :: r, tm, H, Φ, h => by
    simp only [OpsW] at h
    split at h
    · rename_i hw
      obtain ⟨k1, v, H1, h1, h2⟩ := OpW.spec h
      obtain ⟨k2, tm', H', h3, h4⟩ := OpsW.spec h2
      refine ⟨max k1 k2, tm', H', ?_, h4⟩
      have a1 := op_mono (P := P) (call_mono (Nat.le_max_left k1 k2)) h1
      have a2 := seq_mono (P := P) (call_mono (Nat.le_max_right k1 k2)) h3
      simp only [aSeq, aStep, hw, if_true, a1, Option.map_some, Option.bind_some]
      exact a2
    · rename_i hw
      obtain ⟨k2, tm', H', h3, h4⟩ := OpsW.spec h
      refine ⟨k2, tm', H', ?_, h4⟩
      simp only [aSeq, aStep, hw, if_false, Option.bind_some]
      exact h3

theorem OpsD.toW {ops : Array Oper} {prs : List (Nat × Nat)} : ∀ {l : List Oper} {i : Nat} {tm : Tm} {H : AH} {hist : List (Nat × AH)} {pend : List (Nat × Op × Value × Value)} {Φ : Tm → AH → Prop}, OpsD P ops prs i l tm H hist pend Φ → OpsW P ops l tm H Φ
  | [], _, tm, H, _, _, Φ, h => h
  | o :: r, i, tm, H, hist, pend, Φ, h => by
    simp only [OpsD] at h
    simp only [OpsW]
    split at h
    · rename_i hw
      rw [if_pos hw]
      split at h
      · rename_i x hx
        obtain ⟨v, h1, _, h2⟩ := optW_spec h
        refine OpW.read hx ?_
        rw [h1, optW_some]
        exact OpsD.toW h2
      · split at h
        · exact h.mono fun v H' hh => OpsD.toW hh.2
        · exact h.mono fun v H' hh => OpsD.toW hh
    · rename_i hw
      rw [if_neg hw]
      split at h
      · exact OpsD.toW h.2
      · exact OpsD.toW h

end
end Go.Proofs.Ytdagncfnkenbfaa.AM
/- The abstract machine: from the proposition to the run. -/
namespace Go.Proofs.Ytdagncfnkenbfaa.AM
open Go

section
variable {P : Program}

theorem OpW.det {k : Nat} {ev : Operand → Value} {o : Op} {H H' : AH} {v : Value} {Φ : Value → AH → Prop} (h : OpW P ev o H Φ) (h1 : aOp P (aCall P k) ev o H = some (v, H')) : Φ v H' := by
  obtain ⟨k2, v2, H2, h2, h3⟩ := h.spec
  have := op_det h1 h2
  cases this
  exact h3

theorem chkH_spec {prs : List (Nat × Nat)} {i : Nat} {o : Op} {x v : Value} : ∀ {l : List (Nat × AH)}, chkH P prs i o x v l → ∀ p Hp, (p, Hp) ∈ l → (i, p) ∈ prs → aRead P o x Hp.get = some v
  | [], _, p, Hp, hm, _ => by simp at hm
  | (q, Hq) :: r, h, p, Hp, hm, hp => by
    simp only [chkH] at h
    rcases List.mem_cons.1 hm with e | hm
    · cases e; exact h.1 hp
    · exact chkH_spec h.2 p Hp hm hp
theorem chkP_spec {prs : List (Nat × Nat)} {p : Nat} {Hp : AH} : ∀ {l : List (Nat × Op × Value × Value)}, chkP P prs p Hp l → ∀ i o x v, (i, o, x, v) ∈ l → (i, p) ∈ prs → aRead P o x Hp.get = some v
  | [], _, i, o, x, v, hm, _ => by simp at hm
  | (j, o', x', v') :: r, h, i, o, x, v, hm, hp => by
    simp only [chkP] at h
    rcases List.mem_cons.1 hm with e | hm
    · cases e; exact h.1 hp
    · exact chkP_spec h.2 i o x v hm hp

theorem rd_not_isE {o : Op} {x : Operand} (h : rdArg o = some x) : isE o = false := by
  cases o <;> simp [rdArg] at h <;> rfl

theorem opsD_stable {k : Nat} {ops : Array Oper} {prs : List (Nat × Nat)} {tm0 tmF : Tm} {H0 HF : AH} {T : Nat → Tm} {H : Nat → AH} (ht : Trace P (aCall P k) ops tm0 H0 tmF HF T H) {Φ : Tm → AH → Prop} :
    ∀ (l : List Oper) (i : Nat) (hist : List (Nat × AH)) (pend : List (Nat × Op × Value × Value)), ops.toList.drop i = l → OpsD P ops prs i l (T i) (H i) hist pend Φ →
    (∀ p, p ≤ i → Bnd ops p → (p, H p) ∈ hist) →
    (∀ j o x, j < i → ops[j]? = some o → rdArg o.op = some x → awanted ops o (T j) = true → ∃ v, aRead P o.op (aev (T j) x) (H j).get = some v ∧ (j, o.op, aev (T j) x, v) ∈ pend) →
    (∀ j o x p, j < i → p ≤ i → ops[j]? = some o → rdArg o.op = some x → awanted ops o (T j) = true → Bnd ops p → (j, p) ∈ prs → aRead P o.op (aev (T j) x) (H p).get = aRead P o.op (aev (T j) x) (H j).get) →
    (∀ j o x p, ops[j]? = some o → rdArg o.op = some x → awanted ops o (T j) = true → Bnd ops p → (j, p) ∈ prs → aRead P o.op (aev (T j) x) (H p).get = aRead P o.op (aev (T j) x) (H j).get)
  | [], i, hist, pend, hd, _, _, _, h3 => by
    have hi : ops.size ≤ i := by simpa using hd
    intro j o x p ho hx hw hb hp
    have hj := (Array.getElem?_eq_some_iff.1 ho).1
    refine h3 j o x p (by omega) ?_ ho hx hw hb hp
    rcases hb with rfl | ⟨e, oe, rfl, he, _⟩
    · exact Nat.zero_le _
    · have := (Array.getElem?_eq_some_iff.1 he).1
      omega
  | o :: r, i, hist, pend, hd, h, h1, h2, h3 => by
    have hio : ops.toList[i]? = some o := by
      have := congrArg (fun l : List Oper => l[0]?) hd
      simpa using this
    have hi : ops[i]? = some o := by simpa using hio
    have hdr : ops.toList.drop (i + 1) = r := by
      have := congrArg List.tail hd
      simpa using this
    have hst := ht.step i o hi
    have hb1 : Bnd ops (i + 1) → isE o.op = true := by
      rintro (h | ⟨e, oe, he, hoe, hE⟩)
      · omega
      · have : e = i := by omega
        subst this
        rw [hi] at hoe; cases hoe; exact hE
    simp only [OpsD] at h
    unfold aStep at hst
    split at h
    · rename_i hw
      rw [if_pos hw] at hst
      simp only [Option.map_eq_some_iff, Prod.mk.injEq] at hst
      obtain ⟨⟨v, H1⟩, ho, hT, hH⟩ := hst
      simp only at hT hH
      split at h
      · rename_i x hx
        obtain ⟨v', hv', hck, hrest⟩ := optW_spec h
        have hnE := rd_not_isE hx
        have hd1 : v = v' ∧ H1 = H i := OpW.det (Φ := fun a b => a = v' ∧ b = H i) (OpW.read hx (by rw [hv', optW_some]; exact ⟨rfl, rfl⟩)) ho
        obtain ⟨rfl, hH1⟩ := hd1
        rw [hT] at hrest
        have hH2 : H (i + 1) = H i := by rw [← hH, hH1]
        rw [← hH2] at hrest
        refine opsD_stable ht r (i + 1) _ _ hdr hrest ?_ ?_ ?_
        · intro p hp hb
          rcases Nat.lt_or_ge i p with hlt | hle
          · have : p = i + 1 := by omega
            subst this
            have := hb1 hb
            rw [hnE] at this; cases this
          · exact h1 p hle hb
        · intro j oj xj hj hoj hxj hwj
          rcases Nat.lt_or_ge j i with hlt | hge
          · obtain ⟨vj, q1, q2⟩ := h2 j oj xj hlt hoj hxj hwj
            exact ⟨vj, q1, List.mem_cons_of_mem _ q2⟩
          · have : j = i := by omega
            subst this
            rw [hi] at hoj; cases hoj
            rw [hx] at hxj; cases hxj
            exact ⟨v, hv', List.mem_cons_self ..⟩
        · intro j oj xj p hj hp hoj hxj hwj hb hpr
          have hpi : p ≤ i := by
            rcases Nat.lt_or_ge i p with hlt | hle
            · have : p = i + 1 := by omega
              subst this
              have := hb1 hb
              rw [hnE] at this; cases this
            · exact hle
          rcases Nat.lt_or_ge j i with hlt | hge
          · exact h3 j oj xj p hlt hpi hoj hxj hwj hb hpr
          · have : j = i := by omega
            subst this
            rw [hi] at hoj; cases hoj
            rw [hx] at hxj; cases hxj
            rw [hv']
            exact chkH_spec hck p (H p) (h1 p hpi hb) hpr
      · rename_i hx
        have hnr : ∀ x, rdArg o.op = some x → False := fun x e => by rw [hx] at e; cases e
        split at h
        · rename_i hE
          have hh := OpW.det h ho
          rw [hT, hH] at hh
          refine opsD_stable ht r (i + 1) _ _ hdr hh.2 ?_ ?_ ?_
          · intro p hp hb
            rcases Nat.lt_or_ge i p with hlt | hle
            · have : p = i + 1 := by omega
              subst this
              exact List.mem_cons_self ..
            · exact List.mem_cons_of_mem _ (h1 p hle hb)
          · intro j oj xj hj hoj hxj hwj
            rcases Nat.lt_or_ge j i with hlt | hge
            · exact h2 j oj xj hlt hoj hxj hwj
            · have : j = i := by omega
              subst this
              rw [hi] at hoj; cases hoj
              exact (hnr _ hxj).elim
          · intro j oj xj p hj hp hoj hxj hwj hb hpr
            rcases Nat.lt_or_ge j i with hlt | hge
            · rcases Nat.lt_or_ge i p with hlt2 | hle
              · have : p = i + 1 := by omega
                subst this
                obtain ⟨vj, q1, q2⟩ := h2 j oj xj hlt hoj hxj hwj
                rw [q1]
                exact chkP_spec hh.1 _ _ _ _ q2 hpr
              · exact h3 j oj xj p hlt hle hoj hxj hwj hb hpr
            · have : j = i := by omega
              subst this
              rw [hi] at hoj; cases hoj
              exact (hnr _ hxj).elim
        · rename_i hE
          have hh := OpW.det h ho
          rw [hT, hH] at hh
          refine opsD_stable ht r (i + 1) _ _ hdr hh ?_ ?_ ?_
          · intro p hp hb
            rcases Nat.lt_or_ge i p with hlt | hle
            · have : p = i + 1 := by omega
              subst this
              exact (hE (hb1 hb)).elim
            · exact h1 p hle hb
          · intro j oj xj hj hoj hxj hwj
            rcases Nat.lt_or_ge j i with hlt | hge
            · exact h2 j oj xj hlt hoj hxj hwj
            · have : j = i := by omega
              subst this
              rw [hi] at hoj; cases hoj
              exact (hnr _ hxj).elim
          · intro j oj xj p hj hp hoj hxj hwj hb hpr
            rcases Nat.lt_or_ge j i with hlt | hge
            · rcases Nat.lt_or_ge i p with hlt2 | hle
              · have : p = i + 1 := by omega
                subst this
                exact (hE (hb1 hb)).elim
              · exact h3 j oj xj p hlt hle hoj hxj hwj hb hpr
            · have : j = i := by omega
              subst this
              rw [hi] at hoj; cases hoj
              exact (hnr _ hxj).elim
    · rename_i hw
      rw [if_neg hw] at hst
      simp only [Option.some.injEq, Prod.mk.injEq] at hst
      obtain ⟨hT, hH⟩ := hst
      have hnw : ∀ j oj xj, j < i + 1 → ops[j]? = some oj → rdArg oj.op = some xj → awanted ops oj (T j) = true → j < i := by
        intro j oj xj hj hoj hxj hwj
        rcases Nat.lt_or_ge j i with hlt | hge
        · exact hlt
        · have : j = i := by omega
          subst this
          rw [hi] at hoj; cases hoj
          exact (hw hwj).elim
      split at h
      · rename_i hE
        rw [hT, hH] at h
        refine opsD_stable ht r (i + 1) _ _ hdr h.2 ?_ ?_ ?_
        · intro p hp hb
          rcases Nat.lt_or_ge i p with hlt | hle
          · have : p = i + 1 := by omega
            subst this
            exact List.mem_cons_self ..
          · exact List.mem_cons_of_mem _ (h1 p hle hb)
        · intro j oj xj hj hoj hxj hwj
          exact h2 j oj xj (hnw j oj xj hj hoj hxj hwj) hoj hxj hwj
        · intro j oj xj p hj hp hoj hxj hwj hb hpr
          have hlt := hnw j oj xj hj hoj hxj hwj
          rcases Nat.lt_or_ge i p with hlt2 | hle
          · have : p = i + 1 := by omega
            subst this
            obtain ⟨vj, q1, q2⟩ := h2 j oj xj hlt hoj hxj hwj
            rw [q1]
            exact chkP_spec h.1 _ _ _ _ q2 hpr
          · exact h3 j oj xj p hlt hle hoj hxj hwj hb hpr
      · rename_i hE
        rw [hT, hH] at h
        refine opsD_stable ht r (i + 1) _ _ hdr h ?_ ?_ ?_
        · intro p hp hb
          rcases Nat.lt_or_ge i p with hlt | hle
          · have : p = i + 1 := by omega
            subst this
            exact (hE (hb1 hb)).elim
          · exact h1 p hle hb
        · intro j oj xj hj hoj hxj hwj
          exact h2 j oj xj (hnw j oj xj hj hoj hxj hwj) hoj hxj hwj
        · intro j oj xj p hj hp hoj hxj hwj hb hpr
          have hlt := hnw j oj xj hj hoj hxj hwj
          rcases Nat.lt_or_ge i p with hlt2 | hle
          · have : p = i + 1 := by omega
            subst this
            exact (hE (hb1 hb)).elim
          · exact h3 j oj xj p hlt hle hoj hxj hwj hb hpr

theorem prsOk_spec {ops : Array Oper} {prs : List (Nat × Nat)} (h : prsOk ops prs = true) : ∀ (i : Nat) o x p, ops[i]? = some o → rdArg o.op = some x → Bnd ops p → Compat ops i p → (i, p) ∈ prs := by
  intro i o x p ho hx hb hc
  unfold prsOk at h
  have hi := (Array.getElem?_eq_some_iff.1 ho).1
  have h1 := (List.all_eq_true.1 h) i (List.mem_range.2 hi)
  simp only [ho, hx, Option.isSome_some, Bool.not_true, Bool.false_or] at h1
  have hp : p ∈ bnds ops := by
    unfold bnds
    rcases hb with rfl | ⟨e, oe, rfl, he, hE⟩
    · exact List.mem_cons_self ..
    · refine List.mem_cons_of_mem _ (List.mem_map.2 ⟨e, List.mem_filter.2 ⟨List.mem_range.2 (Array.getElem?_eq_some_iff.1 he).1, ?_⟩, rfl⟩)
      simp [he, hE]
  have h2 := (List.all_eq_true.1 h1) p hp
  have hcb : compatB ops (Region.before ops) i p = true := by
    unfold compatB
    refine List.all_eq_true.2 fun e he => ?_
    cases hoe : ops[e]? with
    | none => rfl
    | some oe =>
      simp only []
      cases hE : isE oe.op with
      | false => rfl
      | true =>
        have := hc e oe hoe hE
        simp only [Bool.not_true, Bool.false_or, Bool.and_eq_true, Bool.or_eq_true, Bool.not_eq_true', decide_eq_true_eq]
        refine ⟨?_, ?_⟩
        · cases hb : befB (Region.before ops) e i with
          | false => exact .inl rfl
          | true => exact .inr (this.1 hb)
        · cases hb : befB (Region.before ops) i e with
          | false => exact .inl rfl
          | true => exact .inr (this.2 hb)
  rw [hcb] at h2
  simpa using h2

theorem region_draw {ops : Array Oper} {prs : List (Nat × Nat)} (hd : drawOk ops = true) (hp : prsOk ops prs = true) {tm : Tm} {H : AH} {Φ : Tm → AH → Prop} (h : OpsD P ops prs 0 ops.toList tm H [(0, H)] [] Φ) :
    ∃ k tm' H', aRegion P (aCall P k) ops true tm H = some (tm', H') ∧ Φ tm' H' := by
  obtain ⟨k, tm', H', h1, h2⟩ := (OpsD.toW h).spec
  refine ⟨k, tm', H', ?_, h2⟩
  have ht := trace_of h1
  have hs := opsD_stable (prs := prs) (Φ := Φ) ht ops.toList 0 [(0, H)] [] rfl (by rw [ht.t0, ht.h0]; exact h)
    (by
      intro p hp _
      have : p = 0 := by omega
      subst this
      rw [ht.h0]
      exact List.mem_cons_self ..)
    (by intro j o x hj; omega) (by intro j o x p hj; omega)
  unfold aRegion
  rw [if_neg]
  · exact h1
  · rintro ⟨_, hn⟩
    refine hn ⟨hd, ?_⟩
    intro i o x ho hx hw p hb hc
    exact hs i o x p ho hx hw hb (prsOk_spec hp i o x p ho hx hb hc)

end
end Go.Proofs.Ytdagncfnkenbfaa.AM
/- The abstract machine: rules for code. -/
namespace Go.Proofs.Ytdagncfnkenbfaa.AM
open Go

section
variable {P : Program}

theorem cm {k k' : Nat} (hk : k ≤ k') {c : Code} {tm : Tm} {H : AH} {x : Ex × Tm × AH} (h : aCode P (aCall P k) k c tm H = some x) : aCode P (aCall P k') k' c tm H = some x :=
  code_mono (call_mono hk) k k' c tm H x hk h

/-- Code inside of code: one step of fuel more. -/
theorem cm1 {k k' : Nat} (hk : k ≤ k') {c : Code} {tm : Tm} {H : AH} {x : Ex × Tm × AH} (h : aCode P (aCall P k) k c tm H = some x) : aCode P (aCall P (k' + 1)) k' c tm H = some x :=
  code_mono (call_mono (Nat.le_succ_of_le hk)) k k' c tm H x hk h

theorem bw_skip {tm : Tm} {H : AH} {Q : Ex → Tm → AH → Prop} (h : Q .normal tm H) : BW P .skip tm H Q := ⟨1, _, _, _, rfl, h⟩
theorem bw_ret {tm : Tm} {H : AH} {Q : Ex → Tm → AH → Prop} (h : Q .ret tm H) : BW P .ret tm H Q := ⟨1, _, _, _, rfl, h⟩
theorem bw_exit {id : Nat} {tm : Tm} {H : AH} {Q : Ex → Tm → AH → Prop} (h : Q (.exit id) tm H) : BW P (.exit id) tm H Q := ⟨1, _, _, _, rfl, h⟩

theorem bw_seq {a b : Code} {tm : Tm} {H : AH} {Q : Ex → Tm → AH → Prop} (h : BW P a tm H fun ex tm H => match ex with | .normal => BW P b tm H Q | ex => Q ex tm H) : BW P (.seq a b) tm H Q := by
  obtain ⟨k, ex, tm1, H1, h1, h2⟩ := h
  cases ex with
  | normal =>
    obtain ⟨k2, ex2, tm2, H2, h3, h4⟩ := h2
    refine ⟨max k k2 + 1, ex2, tm2, H2, ?_, h4⟩
    simp only [aCode, cm1 (Nat.le_max_left k k2) h1, cm1 (Nat.le_max_right k k2) h3]
  | exit i =>
    refine ⟨k + 1, _, tm1, H1, ?_, h2⟩
    simp only [aCode, cm1 (Nat.le_refl k) h1]
  | ret =>
    refine ⟨k + 1, _, tm1, H1, ?_, h2⟩
    simp only [aCode, cm1 (Nat.le_refl k) h1]

theorem bw_cond {c : Operand} {a b : Code} {tm : Tm} {H : AH} {Q : Ex → Tm → AH → Prop} {t : Bool} (hc : aev tm c = .bool t) (h1 : t = true → BW P a tm H Q) (h2 : t = false → BW P b tm H Q) : BW P (.cond c a b) tm H Q := by
  cases t with
  | true =>
    obtain ⟨k, ex, tm1, H1, h3, h4⟩ := h1 rfl
    exact ⟨k + 1, ex, tm1, H1, by simp only [aCode, hc, cm1 (Nat.le_refl k) h3], h4⟩
  | false =>
    obtain ⟨k, ex, tm1, H1, h3, h4⟩ := h2 rfl
    exact ⟨k + 1, ex, tm1, H1, by simp only [aCode, hc, cm1 (Nat.le_refl k) h3], h4⟩

theorem bw_block {id : Nat} {c : Code} {tm : Tm} {H : AH} {Q : Ex → Tm → AH → Prop} (h : BW P c tm H fun ex tm H => match ex with | .exit i => if i = id then Q .normal tm H else Q (.exit i) tm H | ex => Q ex tm H) : BW P (.block id c) tm H Q := by
  obtain ⟨k, ex, tm1, H1, h1, h2⟩ := h
  cases ex with
  | normal => exact ⟨k + 1, _, tm1, H1, by simp only [aCode, cm1 (Nat.le_refl k) h1], h2⟩
  | ret => exact ⟨k + 1, _, tm1, H1, by simp only [aCode, cm1 (Nat.le_refl k) h1], h2⟩
  | exit i =>
    simp only at h2
    split at h2
    · rename_i e
      exact ⟨k + 1, _, tm1, H1, by simp only [aCode, cm1 (Nat.le_refl k) h1, if_pos e], h2⟩
    · rename_i e
      exact ⟨k + 1, _, tm1, H1, by simp only [aCode, cm1 (Nat.le_refl k) h1, if_neg e], h2⟩

theorem bw_loop {c : Code} {tm : Tm} {H : AH} {Q : Ex → Tm → AH → Prop} (h : BW P c tm H fun ex tm H => match ex with | .normal => BW P (.loop c) tm H Q | ex => Q ex tm H) : BW P (.loop c) tm H Q := by
  obtain ⟨k, ex, tm1, H1, h1, h2⟩ := h
  cases ex with
  | normal =>
    obtain ⟨k2, ex2, tm2, H2, h3, h4⟩ := h2
    refine ⟨max k k2 + 1, ex2, tm2, H2, ?_, h4⟩
    simp only [aCode, cm1 (Nat.le_max_left k k2) h1, cm1 (Nat.le_max_right k k2) h3]
  | exit i =>
    refine ⟨k + 1, _, tm1, H1, ?_, h2⟩
    simp only [aCode, cm1 (Nat.le_refl k) h1]
  | ret =>
    refine ⟨k + 1, _, tm1, H1, ?_, h2⟩
    simp only [aCode, cm1 (Nat.le_refl k) h1]

theorem bw_region {id : Nat} {ops : Array Oper} {tm : Tm} {H : AH} {Q : Ex → Tm → AH → Prop} (h : OpsW P ops ops.toList tm H (Q .normal)) : BW P (.region id ops false) tm H Q := by
  obtain ⟨k, tm1, H1, h1, h2⟩ := h.spec
  refine ⟨k + 1, .normal, tm1, H1, ?_, h2⟩
  have := seq_mono (P := P) (call_mono (Nat.le_succ k)) h1
  simp only [aCode, aRegion, Bool.false_eq_true, false_and, if_false, this, Option.map_some]

theorem stable_mono {k k' : Nat} (hk : k ≤ k') {ops : Array Oper} {tm : Tm} {H : AH} {x : Tm × AH} (h : aRegion P (aCall P k) ops true tm H = some x) : aRegion P (aCall P k') ops true tm H = some x :=
  region_mono (call_mono hk) h

theorem bw_draw {id : Nat} {ops : Array Oper} {prs : List (Nat × Nat)} (hd : drawOk ops = true) (hp : prsOk ops prs = true) {tm : Tm} {H : AH} {Q : Ex → Tm → AH → Prop} (h : OpsD P ops prs 0 ops.toList tm H [(0, H)] [] (Q .normal)) : BW P (.region id ops true) tm H Q := by
  obtain ⟨k, tm1, H1, h1, h2⟩ := region_draw hd hp h
  refine ⟨k + 1, .normal, tm1, H1, ?_, h2⟩
  simp only [aCode, stable_mono (Nat.le_succ k) h1, Option.map_some]

theorem vc_sound {prs : Prs} : ∀ (c : Code) (tm : Tm) (H : AH) (Q : Ex → Tm → AH → Prop), codeSt prs c = true → VC P prs c tm H Q → BW P c tm H Q
  | .skip, tm, H, Q, _, h => bw_skip h
  | .exit id, tm, H, Q, _, h => bw_exit h
  | .ret, tm, H, Q, _, h => bw_ret h
  | .region _ ops false, tm, H, Q, _, h => bw_region h
  | .region id ops true, tm, H, Q, hs, h => by
    simp only [codeSt, Bool.and_eq_true] at hs
    exact bw_draw hs.1 hs.2 h
  | .seq a b, tm, H, Q, hs, h => by
    simp only [codeSt, Bool.and_eq_true] at hs
    refine bw_seq ((vc_sound a tm H _ hs.1 h).mono ?_)
    intro ex tm' H' hq
    cases ex with
    | normal => exact vc_sound b tm' H' Q hs.2 hq
    | _ => exact hq
  | .cond c a b, tm, H, Q, hs, h => by
    simp only [codeSt, Bool.and_eq_true] at hs
    simp only [VC] at h
    split at h
    · rename_i t ht
      exact bw_cond ht (fun e => vc_sound a tm H Q hs.1 (h.1 e)) (fun e => vc_sound b tm H Q hs.2 (h.2 e))
    · exact h.elim
  | .block id c, tm, H, Q, hs, h => by
    simp only [codeSt] at hs
    exact bw_block (vc_sound c tm H _ hs h)
  | .loop c, tm, H, Q, _, h => h
  | .rangeFunc .., _, _, _, _, h => by simp [VC] at h
  | .scope .., _, _, _, _, h => by simp [VC] at h
  | .label .., _, _, _, _, h => by simp [VC] at h
  | .goto .., _, _, _, _, h => by simp [VC] at h
  | .refuse .., _, _, _, _, h => by simp [VC] at h

theorem vc_loop {prs : Prs} {c : Code} (hs : codeSt prs c = true) {Q : Ex → Tm → AH → Prop} (I : Nat → Tm → AH → Prop)
    (hstep : ∀ n tm H, I n tm H → VC P prs c tm H fun ex tm' H' => match ex with | .normal => ∃ m, m < n ∧ I m tm' H' | ex => Q ex tm' H') :
    ∀ (n : Nat) {tm : Tm} {H : AH}, I n tm H → BW P (.loop c) tm H Q := by
  intro n
  induction n using Nat.strongRecOn with
  | _ n ih =>
    intro tm H hI
    refine bw_loop ((vc_sound c tm H _ hs (hstep n tm H hI)).mono ?_)
    intro ex tm' H' hq
    cases ex with
    | normal =>
      obtain ⟨m, hm, hI'⟩ := hq
      exact ih m hm hI'
    | _ => exact hq

def fnPost (P : Program) (fn : Func) (Φ : Value → AH → Prop) : Ex → Tm → AH → Prop := fun ex tm H => match ex with | .exit _ => False | _ => optW (aRes P fn tm H.get) fun r => Φ r H

theorem CallsA.fn {f : FuncId} {fn : Func} {c : Code} {prs : Prs} (hf : P.funcs[f]? = some fn) (hb : fn.body = some c) (hok : (fnOk fn c && codeSt prs c) = true) {args : Array Value} {H : AH} {Φ : Value → AH → Prop}
    (h : VC P prs c (fun i => args.getD i undef) H (fnPost P fn Φ)) : CallsA P f args H Φ := by
  simp only [Bool.and_eq_true] at hok
  obtain ⟨k, ex, tm', H', h1, h2⟩ := vc_sound c _ H _ hok.2 h
  cases ex with
  | exit i => exact h2.elim
  | normal =>
    obtain ⟨r, h3, h4⟩ := optW_spec h2
    refine ⟨k + 1, r, H', ?_, h4⟩
    simp only [aCall, hf, hb, hok.1, if_true, h1, h3, Option.map_some]
  | ret =>
    obtain ⟨r, h3, h4⟩ := optW_spec h2
    refine ⟨k + 1, r, H', ?_, h4⟩
    simp only [aCall, hf, hb, hok.1, if_true, h1, h3, Option.map_some]
end
end Go.Proofs.Ytdagncfnkenbfaa.AM
/- The abstract machine: code made short, and equations to reckon with. -/
namespace Go.Proofs.Ytdagncfnkenbfaa.AM
open Go

/-- An operation, without what only a drawn order asks for. -/
structure KO where
  d : Option Nat
  g : Option (Nat × Bool)
  o : Op

inductive KC where
  | skip
  | ret
  | exit (id : Nat)
  | ops (l : List KO)
  | draw (B : Array Nat) (prs : List (Nat × Nat)) (l : List KO)
  | seq (a b : KC)
  | cond (c : Operand) (a b : KC)
  | block (id : Nat) (c : KC)
  | loop (c : KC)
  | bad

/-- The slot that a guard looks at; a guard on nothing is none that is ever wanted. -/
def cmpG (ops : Array Oper) (o : Oper) : Option (Nat × Bool) :=
  match o.guard with
  | none => none
  | some (j, want) => ((ops[j]?).bind (·.dst)).map fun d => (d, want)
def gOk (ops : Array Oper) (o : Oper) : Bool :=
  match o.guard with
  | none => true
  | some (j, _) => ((ops[j]?).bind (·.dst)).isSome
def cmpO (ops : Array Oper) (o : Oper) : KO := ⟨o.dst, cmpG ops o, o.op⟩

/-- What neither turns nor makes memory. -/
def quiet (o : Op) : Bool := !isE o && !isA o

def cmp (prs : Prs) : Code → KC
  | .skip => .skip
  | .ret => .ret
  | .exit id => .exit id
  | .region _ ops false => if ops.toList.all (gOk ops) then .ops (ops.toList.map (cmpO ops)) else .bad
  | .region id ops true => if ops.toList.all (gOk ops) then (if ops.toList.all (fun o => quiet o.op) then .ops (ops.toList.map (cmpO ops)) else .draw #[] (prs id) (ops.toList.map (cmpO ops))) else .bad
  | .seq a b => .seq (cmp prs a) (cmp prs b)
  | .cond c a b => .cond c (cmp prs a) (cmp prs b)
  | .block id c => .block id (cmp prs c)
  | .loop c => .loop (cmp prs c)
  | _ => .bad

def want (g : Option (Nat × Bool)) (tm : Tm) : Bool :=
  match g with
  | none => true
  | some (d, w) => match tm d with | .bool b => b == w | _ => false

theorem want_eq {ops : Array Oper} {o : Oper} (h : gOk ops o = true) (tm : Tm) : awanted ops o tm = want (cmpG ops o) tm := by
  unfold awanted want cmpG
  unfold gOk at h
  cases hg : o.guard with
  | none => rfl
  | some p =>
    obtain ⟨j, w⟩ := p
    rw [hg] at h
    simp only at h ⊢
    cases hd : (ops[j]?).bind (·.dst) with
    | none => simp [hd] at h
    | some d => rfl

def kOps (P : Program) : List KO → Tm → AH → (Tm → AH → Prop) → Prop
  | [], tm, H, Φ => Φ tm H
  | k :: r, tm, H, Φ => if want k.g tm = true then OpW P (aev tm) k.o H fun v H' => kOps P r (aput tm k.d v) H' Φ else kOps P r (aput tm k.d undef) H Φ

theorem kOps_ops {P : Program} {ops : Array Oper} {Φ : Tm → AH → Prop} : ∀ {l : List Oper} {tm : Tm} {H : AH}, (l.all (gOk ops) = true) → kOps P (l.map (cmpO ops)) tm H Φ → OpsW P ops l tm H Φ
  | [], tm, H, _, h => h
  | o :: r, tm, H, hg, h => by
    simp only [List.all_cons, Bool.and_eq_true] at hg
    simp only [List.map_cons, kOps, cmpO] at h
    simp only [OpsW, want_eq hg.1]
    split
    · rename_i hw
      rw [if_pos hw] at h
      exact h.mono fun v H' hh => kOps_ops hg.2 hh
    · rename_i hw
      rw [if_neg hw] at h
      exact kOps_ops hg.2 h

def kDraw (P : Program) (prs : List (Nat × Nat)) : Nat → List KO → Tm → AH → List (Nat × AH) → List (Nat × Op × Value × Value) → (Tm → AH → Prop) → Prop
  | _, [], tm, H, _, _, Φ => Φ tm H
  | i, k :: r, tm, H, hist, pend, Φ =>
    if want k.g tm = true then
      match rdArg k.o with
      | some x => optW (aRead P k.o (aev tm x) H.get) fun v => chkH P prs i k.o (aev tm x) v hist ∧ kDraw P prs (i + 1) r (aput tm k.d v) H hist ((i, k.o, aev tm x, v) :: pend) Φ
      | none =>
        if isE k.o = true then OpW P (aev tm) k.o H fun v H' => chkP P prs (i + 1) H' pend ∧ kDraw P prs (i + 1) r (aput tm k.d v) H' ((i + 1, H') :: hist) pend Φ
        else OpW P (aev tm) k.o H fun v H' => kDraw P prs (i + 1) r (aput tm k.d v) H' hist pend Φ
    else if isE k.o = true then chkP P prs (i + 1) H pend ∧ kDraw P prs (i + 1) r (aput tm k.d undef) H ((i + 1, H) :: hist) pend Φ
    else kDraw P prs (i + 1) r (aput tm k.d undef) H hist pend Φ

theorem optW_mono {α : Type} {x : Option α} {Φ Ψ : α → Prop} (h : optW x Φ) (hm : ∀ a, Φ a → Ψ a) : optW x Ψ := by
  cases x with
  | none => exact h
  | some a => exact hm a h

theorem kDraw_ops {P : Program} {ops : Array Oper} {prs : List (Nat × Nat)} {Φ : Tm → AH → Prop} : ∀ {l : List Oper} {i : Nat} {tm : Tm} {H : AH} {hist : List (Nat × AH)} {pend : List (Nat × Op × Value × Value)}, (l.all (gOk ops) = true) → kDraw P prs i (l.map (cmpO ops)) tm H hist pend Φ → OpsD P ops prs i l tm H hist pend Φ
  | [], _, tm, H, _, _, _, h => h
  | o :: r, i, tm, H, hist, pend, hg, h => by
    simp only [List.all_cons, Bool.and_eq_true] at hg
    simp only [List.map_cons, kDraw, cmpO] at h
    simp only [OpsD, want_eq hg.1]
    split
    · rename_i hw
      rw [if_pos hw] at h
      split
      · rename_i x hx
        rw [hx] at h
        exact optW_mono h fun v hh => ⟨hh.1, kDraw_ops hg.2 hh.2⟩
      · rename_i hx
        rw [hx] at h
        simp only at h
        split
        · rename_i hE
          rw [if_pos hE] at h
          exact h.mono fun v H' hh => ⟨hh.1, kDraw_ops hg.2 hh.2⟩
        · rename_i hE
          rw [if_neg hE] at h
          exact h.mono fun v H' hh => kDraw_ops hg.2 hh
    · rename_i hw
      rw [if_neg hw] at h
      split
      · rename_i hE
        rw [if_pos hE] at h
        exact ⟨h.1, kDraw_ops hg.2 h.2⟩
      · rename_i hE
        rw [if_neg hE] at h
        exact kDraw_ops hg.2 h

theorem quiet_heap {P : Program} {ev : Operand → Value} {o : Op} {H : AH} {x : Value × AH} (hq : quiet o = true) (h : aOp P noCall ev o H = some x) : x.2 = H := by
  unfold quiet at hq
  simp only [Bool.and_eq_true, Bool.not_eq_true'] at hq
  obtain ⟨he, ha⟩ := hq
  unfold aOp at h
  split at h <;> first
    | (simp [isE] at he; done)
    | (simp [isA] at ha; done)
    | (simp only [Option.map_eq_some_iff] at h; obtain ⟨_, _, rfl⟩ := h; rfl)
theorem quiet_val {o : Op} (hq : quiet o = true) : valCall o = none := by
  unfold quiet at hq
  simp only [Bool.and_eq_true, Bool.not_eq_true'] at hq
  unfold valCall
  split
  · simp [isE] at hq
  · rfl
theorem rd_only {P : Program} {ev : Operand → Value} {o : Op} {x : Operand} {H : AH} {Φ : Value → AH → Prop} (hx : rdArg o = some x) (h : OpW P ev o H Φ) : optW (aRead P o (ev x) H.get) fun v => Φ v H := by
  have key : ∀ (z : Option Value), optW (z.map fun v => (v, H)) (fun y => Φ y.1 y.2) → optW z fun v => Φ v H := by
    intro z hz
    cases z <;> exact hz
  cases o with
  | load t y =>
    simp only [rdArg, Option.some.injEq] at hx
    subst hx
    exact key _ h
  | convert t u y =>
    simp only [rdArg, Option.some.injEq] at hx
    subst hx
    exact key _ h
  | _ => simp [rdArg] at hx

theorem kOps_draw {P : Program} {prs : List (Nat × Nat)} {Φ : Tm → AH → Prop} {H : AH} : ∀ {l : List KO} {i : Nat} {tm : Tm} {pend : List (Nat × Op × Value × Value)}, (l.all (fun k => quiet k.o) = true) → kOps P l tm H Φ → kDraw P prs i l tm H [(0, H)] pend Φ
  | [], _, tm, _, _, h => h
  | k :: r, i, tm, pend, hq, h => by
    simp only [List.all_cons, Bool.and_eq_true] at hq
    have hE : isE k.o = false := by
      have := hq.1
      unfold quiet at this
      simp only [Bool.and_eq_true, Bool.not_eq_true'] at this
      exact this.1
    simp only [kOps] at h
    simp only [kDraw]
    split
    · rename_i hw
      rw [if_pos hw] at h
      split
      · rename_i x hx
        have h1 := rd_only hx h
        obtain ⟨v, h2, h3⟩ := optW_spec h1
        rw [h2, optW_some]
        exact ⟨⟨fun _ => h2, trivial⟩, kOps_draw hq.2 h3⟩
      · rw [if_neg (by simp [hE])]
        unfold OpW at h ⊢
        rw [quiet_val hq.1] at h ⊢
        obtain ⟨x, h1, h2⟩ := optW_spec h
        have := quiet_heap hq.1 h1
        simp only [h1, optW_some]
        rw [this] at h2 ⊢
        exact kOps_draw hq.2 h2
    · rename_i hw
      rw [if_neg hw] at h
      rw [if_neg (by simp [hE])]
      exact kOps_draw hq.2 h

abbrev Post := Ex → Tm → AH → Prop

/-- Code made short: what is to be shown. A loop asks for a rule of its own. -/
def kW (P : Program) : KC → Tm → AH → Post → Prop
  | .skip, tm, H, Q => Q .normal tm H
  | .exit id, tm, H, Q => Q (.exit id) tm H
  | .ret, tm, H, Q => Q .ret tm H
  | .ops l, tm, H, Q => kOps P l tm H (Q .normal)
  | .draw _ prs l, tm, H, Q => kDraw P prs 0 l tm H [(0, H)] [] (Q .normal)
  | .seq a b, tm, H, Q => kW P a tm H fun ex tm H => match ex with | .normal => kW P b tm H Q | ex => Q ex tm H
  | .cond c a b, tm, H, Q => match aev tm c with | .bool t => (t = true → kW P a tm H Q) ∧ (t = false → kW P b tm H Q) | _ => False
  | .block id c, tm, H, Q => kW P c tm H fun ex tm H => match ex with | .exit i => if i = id then Q .normal tm H else Q (.exit i) tm H | ex => Q ex tm H
  | .loop c, tm, H, Q => ∃ (I : Nat → Tm → AH → Prop) (n : Nat), I n tm H ∧ ∀ n tm H, I n tm H → kW P c tm H fun ex tm' H' => match ex with | .normal => ∃ m, m < n ∧ I m tm' H' | ex => Q ex tm' H'
  | .bad, _, _, _ => False

theorem kW_sound {P : Program} {prs : Prs} : ∀ (c : Code) (tm : Tm) (H : AH) (Q : Post), codeSt prs c = true → kW P (cmp prs c) tm H Q → BW P c tm H Q
  | .skip, tm, H, Q, _, h => bw_skip h
  | .exit id, tm, H, Q, _, h => bw_exit h
  | .ret, tm, H, Q, _, h => bw_ret h
  | .region _ ops false, tm, H, Q, _, h => by
    simp only [cmp] at h
    split at h
    · rename_i hg
      exact bw_region (kOps_ops hg h)
    · exact h.elim
  | .region id ops true, tm, H, Q, hs, h => by
    simp only [codeSt, Bool.and_eq_true] at hs
    simp only [cmp] at h
    split at h
    · rename_i hg
      split at h
      · rename_i hq
        exact bw_draw hs.1 hs.2 (kDraw_ops hg (kOps_draw (by simpa [cmpO] using hq) h))
      · exact bw_draw hs.1 hs.2 (kDraw_ops hg h)
    · exact h.elim
  | .seq a b, tm, H, Q, hs, h => by
    simp only [codeSt, Bool.and_eq_true] at hs
    refine bw_seq ((kW_sound a tm H _ hs.1 h).mono ?_)
    intro ex tm' H' hq
    cases ex with
    | normal => exact kW_sound b tm' H' Q hs.2 hq
    | _ => exact hq
  | .cond c a b, tm, H, Q, hs, h => by
    simp only [codeSt, Bool.and_eq_true] at hs
    simp only [cmp, kW] at h
    split at h
    · rename_i t ht
      exact bw_cond ht (fun e => kW_sound a tm H Q hs.1 (h.1 e)) (fun e => kW_sound b tm H Q hs.2 (h.2 e))
    · exact h.elim
  | .block id c, tm, H, Q, hs, h => by
    simp only [codeSt] at hs
    exact bw_block (kW_sound c tm H _ hs h)
  | .loop c, tm, H, Q, hs, h => by
    simp only [codeSt] at hs
    obtain ⟨I, n, hI, hstep⟩ := h
    have key : ∀ n tm H, I n tm H → BW P (.loop c) tm H Q := by
      intro n
      induction n using Nat.strongRecOn with
      | _ n ih =>
        intro tm H hI
        refine bw_loop ((kW_sound c tm H _ hs (hstep n tm H hI)).mono ?_)
        intro ex tm' H' hq
        cases ex with
        | normal =>
          obtain ⟨m, hm, hI'⟩ := hq
          exact ih m hm tm' H' hI'
        | _ => exact hq
    exact key n _ _ hI
  | .rangeFunc .., _, _, _, _, h => by simp [cmp, kW] at h
  | .scope .., _, _, _, _, h => by simp [cmp, kW] at h
  | .label .., _, _, _, _, h => by simp [cmp, kW] at h
  | .goto .., _, _, _, _, h => by simp [cmp, kW] at h
  | .refuse .., _, _, _, _, h => by simp [cmp, kW] at h

theorem CallsA.k {P : Program} {f : FuncId} {fn : Func} {c : Code} {K : KC} (prs : Prs) (hf : P.funcs[f]? = some fn) (hb : fn.body = some c) (hok : (fnOk fn c && codeSt prs c) = true) (hk : cmp prs c = K) {args : Array Value} {H : AH} {Φ : Value → AH → Prop}
    (h : kW P K (fun i => args.getD i undef) H (fnPost P fn Φ)) : CallsA P f args H Φ := by
  simp only [Bool.and_eq_true] at hok
  subst hk
  obtain ⟨k, ex, tm', H', h1, h2⟩ := kW_sound c _ H _ hok.2 h
  cases ex with
  | exit i => exact h2.elim
  | normal =>
    obtain ⟨r, h3, h4⟩ := optW_spec h2
    refine ⟨k + 1, r, H', ?_, h4⟩
    simp only [aCall, hf, hb, hok.1, if_true, h1, h3, Option.map_some]
  | ret =>
    obtain ⟨r, h3, h4⟩ := optW_spec h2
    refine ⟨k + 1, r, H', ?_, h4⟩
    simp only [aCall, hf, hb, hok.1, if_true, h1, h3, Option.map_some]

end Go.Proofs.Ytdagncfnkenbfaa.AM
