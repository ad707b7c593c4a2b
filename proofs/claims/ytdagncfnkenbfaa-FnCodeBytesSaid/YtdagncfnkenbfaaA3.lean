/- The abstract machine: operations and regions, each sound. -/
import Derived.Test.YtdagncfnkenbfaaA2
set_option linter.unusedVariables false
set_option linter.unusedSimpArgs false
set_option linter.defProp false
/- The abstract machine, eleventh part: one operation, and operations one behind the other. -/
namespace Go.Proofs.Ytdagncfnkenbfaa.AM
open Go

abbrev CallF := FuncId → Array Value → AH → Option (Value × AH)

def aOp (P : Program) (call : CallF) (ev : Operand → Value) (o : Op) (H : AH) : Option (Value × AH) :=
  match o with
  | .store t a v => (aStore P t (ev a) (ev v) H).map fun H' => (undef, H')
  | .call ⟨.builtin .append, xs, ts⟩ => if ts.size = 2 ∧ xs.size = 2 then aAppend P ts (xs.map ev) H else none
  | .call ⟨.value f, xs, _⟩ => match ev f with | .func (.func g) first cap => call g (first ++ xs.map ev ++ cap) H | _ => none
  | .load t x => (aLoad P t (ev x) H.get).map fun v => (v, H)
  | .convert s d x => (aConv P s d (ev x) H.get).map fun v => (v, H)
  | .alloc t => (aMake P ev (.alloc t)).map fun x => (mkv x.2 H.length, H ++ [⟨x.1, .own⟩])
  | .box t x => (aMake P ev (.box t x)).map fun x => (mkv x.2 H.length, H ++ [⟨x.1, .own⟩])
  | .buildSlice t n ps => (aMake P ev (.buildSlice t n ps)).map fun x => (mkv x.2 H.length, H ++ [⟨x.1, .own⟩])
  | .makeSlice t l c => (aMake P ev (.makeSlice t l c)).map fun x => (mkv x.2 H.length, H ++ [⟨x.1, .own⟩])
  | o => (aPure P ev o).map fun v => (v, H)

def Fresh (ρ : Rho) (n n' : Nat) : Prop := ∀ b, n ≤ b → b < n' → ρ b = none

def CallSound (P : Program) (call : CallF) : Prop := ∀ g args H r H', call g args H = some (r, H') → H.length ≤ H'.length ∧ ∀ (ρ : Rho) (w : World) (args' : Array Value), VL ρ args.toList args'.toList → HR ρ H.get w → Fresh ρ H.length H'.length →
  (∃ fn, P.funcs[g]? = some fn ∧ fn.body.isSome = true ∧ (fn.name == "runtime.NumGoroutine") = false) ∧
  Calls P g args' w fun e w' => ∃ r' ρ', e = .returned r' ∧ VR ρ' r r' ∧ HR ρ' H'.get w' ∧ Stp H.length H'.length ρ H.get w ρ' H'.get w'

section
variable {P : Program} {call : CallF} {ρ : Rho} {w : World}

theorem kill_len (s : Value) (H : AH) : (kill s H).length = H.length := kill_length s H

theorem op_le (hc : CallSound P call) {ev : Operand → Value} {o : Op} {H H' : AH} {v : Value} (h : aOp P call ev o H = some (v, H')) : H.length ≤ H'.length := by
  unfold aOp at h
  split at h
  · simp only [Option.map_eq_some_iff, Prod.mk.injEq] at h
    obtain ⟨H1, h1, _, rfl⟩ := h
    unfold aStore at h1
    split at h1
    · split at h1
      · split at h1
        · cases h1; simp
        · cases h1
      · cases h1
    · cases h1
  · split at h
    case isFalse => cases h
    unfold aAppend aAppend0 at h
    repeat' (first | (cases h; done) | split at h)
    all_goals (cases h; first | exact Nat.le_refl _ | (simp [kill_length]))
  · split at h
    · exact (hc _ _ _ _ _ h).1
    · cases h
  all_goals
    simp only [Option.map_eq_some_iff, Prod.mk.injEq] at h
    obtain ⟨_, _, _, rfl⟩ := h
    simp

theorem op_sound (hc : CallSound P call) {ev : Operand → Value} {o : Oper} {a : Act} {H H' : AH} {v : Value} {next : Act → World → Prop} {Q : Exit → Act → World → Prop}
    (hev : ∀ x, opdOk x = true → VR ρ (ev x) (a.eval x)) (hok : o.op.operands.all opdOk = true) (h : HR ρ H.get w) (ho : aOp P call ev o.op H = some (v, H')) (hf : Fresh ρ H.length H'.length)
    (hnext : ∀ v' w' ρ', VR ρ' v v' → HR ρ' H'.get w' → Stp H.length H'.length ρ H.get w ρ' H'.get w' → next (a.put o.dst v') w') : o.wp P a w next Q := by
  have hpure : aPure P ev o.op = some v ∧ H' = H → o.wp P a w next Q := by
    rintro ⟨hp, rfl⟩
    obtain ⟨v', hr, hw⟩ := pure_sound (P := P) hev hok hp
    unfold Oper.wp
    rw [hw w]
    exact hnext v' w ρ hr h (Stp.refl ..)
  have hmake : ∀ cs i, aMake P ev o.op = some (cs, i) → v = mkv i H.length → H' = H ++ [⟨cs, .own⟩] → o.wp P a w next Q := by
    rintro cs i hm rfl rfl
    obtain ⟨hlen, cs', t, hr, hw⟩ := make_sound (P := P) hev hok hm
    have hfr : ρ H.length = none := hf _ (Nat.le_refl _) (by simp)
    unfold Oper.wp
    rw [hw w]
    refine hnext _ _ (rupd ρ H.length ⟨⟨w.heap.size, 0, none⟩, cs.length⟩) (mkv_rel (rupd_same ..) (fun m s e => by rw [hlen m s e]; exact Nat.le_refl _)) ?_ ?_
    · rw [get_append]; exact h.alloc hr hfr
    · rw [List.length_append]; exact Stp.alloc _ rfl
  cases hop : o.op with
  | store t x y =>
    simp only [hop, aOp, Op.operands] at ho hok
    simp at hok
    simp only [Option.map_eq_some_iff, Prod.mk.injEq] at ho
    obtain ⟨H1, h1, rfl, rfl⟩ := ho
    obtain ⟨hl, w', hrun, hr, hst⟩ := store_sound (P := P) h (hev x hok.1) (hev y hok.2) h1
    have he : (execOp a.eval o).run P w = .ok .skip w' := by simp [execOp, hop, hrun]
    unfold Oper.wp
    rw [he]
    exact hnext undef w' ρ undef_refl hr hst
  | load t x =>
    simp only [hop, aOp] at ho
    simp only [Option.map_eq_some_iff, Prod.mk.injEq] at ho
    obtain ⟨v1, h1, rfl, rfl⟩ := ho
    obtain ⟨v', hr, hrun⟩ := read_sound (P := P) h hev (o := o) (x := x) hok (by simp [hop, rdArg]) (by simpa [hop, aRead] using h1)
    unfold Oper.wp
    rw [hrun]
    exact hnext v' w ρ hr h (Stp.refl ..)
  | convert s d x =>
    simp only [hop, aOp] at ho
    simp only [Option.map_eq_some_iff, Prod.mk.injEq] at ho
    obtain ⟨v1, h1, rfl, rfl⟩ := ho
    obtain ⟨v', hr, hrun⟩ := read_sound (P := P) h hev (o := o) (x := x) hok (by simp [hop, rdArg]) (by simpa [hop, aRead] using h1)
    unfold Oper.wp
    rw [hrun]
    exact hnext v' w ρ hr h (Stp.refl ..)
  | alloc t =>
    simp only [hop, aOp, Option.map_eq_some_iff, Prod.mk.injEq] at ho
    obtain ⟨⟨cs, i⟩, h1, rfl, rfl⟩ := ho
    exact hmake cs i (by rw [hop]; exact h1) rfl rfl
  | box t x =>
    simp only [hop, aOp, Option.map_eq_some_iff, Prod.mk.injEq] at ho
    obtain ⟨⟨cs, i⟩, h1, rfl, rfl⟩ := ho
    exact hmake cs i (by rw [hop]; exact h1) rfl rfl
  | buildSlice t n ps =>
    simp only [hop, aOp, Option.map_eq_some_iff, Prod.mk.injEq] at ho
    obtain ⟨⟨cs, i⟩, h1, rfl, rfl⟩ := ho
    exact hmake cs i (by rw [hop]; exact h1) rfl rfl
  | makeSlice t l c =>
    simp only [hop, aOp, Option.map_eq_some_iff, Prod.mk.injEq] at ho
    obtain ⟨⟨cs, i⟩, h1, rfl, rfl⟩ := ho
    exact hmake cs i (by rw [hop]; exact h1) rfl rfl
  | call c =>
    obtain ⟨callee, xs, ts⟩ := c
    cases callee with
    | builtin b =>
      cases b with
      | append =>
        simp only [hop, aOp] at ho
        split at ho
        case isFalse => cases ho
        rename_i hsz
        simp only [hop, Op.operands, Call.operands] at hok
        obtain ⟨v', w', ρ', hrun, hr, hh, hst⟩ := append_sound (P := P) (ty := o.type) h (VL.array_map hev xs (by simpa using hok)) ⟨hsz.1, by simpa using hsz.2⟩ ho hf
        have he : (execOp a.eval o).run P w = .ok (.value v') w' := by simp [execOp, hop, resolve, invoke, builtin, hrun]
        unfold Oper.wp
        rw [he]
        exact hnext v' w' ρ' hr hh hst
      | _ =>
        simp only [hop, aOp, Option.map_eq_some_iff, Prod.mk.injEq] at ho
        obtain ⟨v1, h1, rfl, rfl⟩ := ho
        exact hpure ⟨by rw [hop]; exact h1, rfl⟩
    | value f =>
      simp only [hop, aOp, Op.operands, Call.operands] at ho hok
      simp only [Array.all_append, Bool.and_eq_true] at hok
      split at ho
      case h_2 => cases ho
      rename_i g first cap hfv
      have hrf := hev f (by simpa using hok.1)
      rw [hfv] at hrf
      generalize hz : a.eval f = z at hrf
      cases hrf with
      | @func _ _ _ first' cap' hx hy h1 h2 =>
        have hargs : VL ρ (first ++ xs.map ev ++ cap).toList (first' ++ xs.map a.eval ++ cap').toList := by
          simp only [Array.toList_append]
          exact ((VL.iff_array.2 ⟨hx, h1⟩).append (VL.array_map hev xs hok.2)).append (VL.iff_array.2 ⟨hy, h2⟩)
        obtain ⟨⟨fn, hfn, hbody, hname⟩, hcall⟩ := (hc _ _ _ _ _ ho).2 ρ w _ hargs h hf
        have he : (execOp a.eval o).run P w = .ok (.enter g (first' ++ xs.map a.eval ++ cap')) w := by
          have hn' : ¬ fn.name = "runtime.NumGoroutine" := by simpa using hname
          have hb' : ¬ fn.body = none := by intro e; simp [e] at hbody
          simp [execOp, hop, resolve, invoke, hz, Deferred.ofValue, callFunc, hfn, hn', hb']
        unfold Oper.wp
        rw [he]
        simp only [Oper.upon]
        refine hcall.mono ?_
        rintro e w' ⟨r', ρ', rfl, hr, hh, hst⟩
        exact hnext r' w' ρ' hr hh hst
    | invoke r m =>
      simp only [hop, aOp, aPure] at ho
      cases ho
  | _ =>
    simp only [hop, aOp, Option.map_eq_some_iff, Prod.mk.injEq] at ho
    obtain ⟨v1, h1, rfl, rfl⟩ := ho
    exact hpure ⟨by rw [hop]; exact h1, rfl⟩

end
end Go.Proofs.Ytdagncfnkenbfaa.AM
/- The abstract machine, twelfth part: regions in the text's order. -/
namespace Go.Proofs.Ytdagncfnkenbfaa.AM
open Go

def aev (tm : Tm) : Operand → Value
  | .tmp t => tm t
  | .const v => v
  | .global _ => undef
  | .func f => .func (.func f) #[] #[]

def aput (tm : Tm) (d : Option Tmp) (v : Value) : Tm :=
  match d with
  | some d => fun t => if t = d then v else tm t
  | none => tm

def awanted (ops : Array Oper) (o : Oper) (tm : Tm) : Bool :=
  match o.guard with
  | none => true
  | some (j, want) =>
    match (ops[j]?).bind (·.dst) with
    | some d => match tm d with | .bool b => b == want | _ => false
    | none => false

def aStep (P : Program) (call : CallF) (ops : Array Oper) (o : Oper) (tm : Tm) (H : AH) : Option (Tm × AH) :=
  if awanted ops o tm then (aOp P call (aev tm) o.op H).map fun x => (aput tm o.dst x.1, x.2) else some (aput tm o.dst undef, H)

def aSeq (P : Program) (call : CallF) (ops : Array Oper) : List Oper → Tm → AH → Option (Tm × AH)
  | [], tm, H => some (tm, H)
  | o :: r, tm, H => (aStep P call ops o tm H).bind fun x => aSeq P call ops r x.1 x.2

structure TR (ρ : Rho) (tm : Tm) (a : Act) (N : Nat) : Prop where
  size : N ≤ a.tmps.size
  get : ∀ t, VR ρ (tm t) (a.tmps.getD t undef)

/-- What may stand in a function's code: constants that are closed, slots that there are. -/
def operOk (N : Nat) (o : Oper) : Bool := o.op.operands.all opdOk && (match o.dst with | some d => decide (d < N) | none => true)

section
variable {P : Program} {call : CallF} {ρ ρ' : Rho} {w : World} {tm : Tm} {a : Act} {N : Nat}

theorem TR.ev (h : TR ρ tm a N) : ∀ x, opdOk x = true → VR ρ (aev tm x) (a.eval x) := by
  intro x hx
  cases x with
  | tmp t => exact h.get t
  | const v => show VR ρ v v; exact closed_refl (by simpa [opdOk] using hx)
  | global g => simp [opdOk] at hx
  | func f => exact .func rfl rfl (fun i h => by simp at h) (fun i h => by simp at h)

theorem TR.mono (h : TR ρ tm a N) (hs : Sub ρ ρ') : TR ρ' tm a N := ⟨h.size, fun t => (h.get t).mono hs⟩

theorem TR.put (h : TR ρ tm a N) {d : Option Tmp} {v v' : Value} (hv : VR ρ v v') (hd : ∀ t, d = some t → t < N) : TR ρ (aput tm d v) (a.put d v') N := by
  cases d with
  | none => exact h
  | some d =>
    have hdN := hd d rfl
    refine ⟨by simpa [Act.put] using h.size, fun t => ?_⟩
    simp only [aput, Act.put, Array.getD_eq_getD_getElem?]
    by_cases e : t = d
    · subst e
      have hlt : t < a.tmps.size := Nat.lt_of_lt_of_le hdN h.size
      simp [hlt, hv]
    · rw [if_neg e, Array.getElem?_setIfInBounds_ne (Ne.symm e)]
      have := h.get t
      simpa [Array.getD_eq_getD_getElem?] using this

theorem wanted_eq (h : TR ρ tm a N) (ops : Array Oper) (o : Oper) : Region.wanted o (yielded ops a.tmps) = awanted ops o tm := by
  unfold Region.wanted awanted
  cases hg : o.guard with
  | none => rfl
  | some p =>
    obtain ⟨j, want⟩ := p
    simp only [yielded]
    cases hd : (ops[j]?).bind (·.dst) with
    | none => simp
    | some d =>
      simp only [Option.bind_some]
      have hr := h.get d
      rw [Array.getD_eq_getD_getElem?] at hr
      cases ht : a.tmps[d]? with
      | none =>
        rw [ht] at hr
        simp only [Option.getD_none] at hr
        generalize tm d = x at hr
        unfold undef at hr
        cases hr
        simp
      | some y =>
        rw [ht] at hr
        simp only [Option.getD_some] at hr
        generalize tm d = x at hr
        cases hr <;> simp <;> rename_i b <;> cases b <;> cases want <;> rfl

theorem step_le (hc : CallSound P call) {ops : Array Oper} {o : Oper} {H H' : AH} {tm' : Tm} (h : aStep P call ops o tm H = some (tm', H')) : H.length ≤ H'.length := by
  unfold aStep at h
  split at h
  · simp only [Option.map_eq_some_iff, Prod.mk.injEq] at h
    obtain ⟨⟨v, H1⟩, h1, _, rfl⟩ := h
    exact op_le hc h1
  · cases h; exact Nat.le_refl _

theorem seq_le (hc : CallSound P call) {ops : Array Oper} : ∀ {l : List Oper} {tm tm' : Tm} {H H' : AH}, aSeq P call ops l tm H = some (tm', H') → H.length ≤ H'.length
  | [], _, _, _, _, h => by simp [aSeq] at h; rw [h.2]; exact Nat.le_refl _
  | o :: r, _, _, _, _, h => by
    simp only [aSeq, Option.bind_eq_some_iff] at h
    obtain ⟨⟨tm1, H1⟩, h1, h2⟩ := h
    exact Nat.le_trans (step_le hc h1) (seq_le hc h2)

theorem get_dom {H : AH} : ∀ b, H.length ≤ b → H.get b = none := fun _ h => get_none h

/-- One operation of a region. -/
theorem step_sound (hc : CallSound P call) {ops : Array Oper} {Q : Exit → Act → World → Prop} {i : Nat} {o : Oper} (hi : ops[i]? = some o) (hok : operOk N o = true) {H H' : AH} {tm' : Tm} (h : aStep P call ops o tm H = some (tm', H'))
    (hf : Fresh ρ H.length H'.length) (hr : HR ρ H.get w) (ht : TR ρ tm a N) {K : Act → World → Prop}
    (hnext : ∀ a' w' ρ', a'.defers = a.defers → TR ρ' tm' a' N → HR ρ' H'.get w' → Stp H.length H'.length ρ H.get w ρ' H'.get w' → K a' w') : wpOp P ops Q i K a w := by
  simp only [operOk, Bool.and_eq_true] at hok
  obtain ⟨hok1, hok2⟩ := hok
  have hdst : ∀ t, o.dst = some t → t < N := by
    intro t e; rw [e] at hok2; simpa using hok2
  unfold wpOp
  simp only [hi]
  rw [wanted_eq ht ops o]
  unfold aStep at h
  have hput : ∀ v, (a.put o.dst v).defers = a.defers := fun v => by cases o.dst <;> rfl
  cases hw : awanted ops o tm with
  | true =>
    rw [hw] at h
    simp only [if_true, Option.map_eq_some_iff, Prod.mk.injEq] at h
    obtain ⟨⟨v, H1⟩, h1, rfl, rfl⟩ := h
    simp only [if_true]
    left
    refine op_sound hc ht.ev hok1 hr h1 hf ?_
    intro v' w' ρ' hv hh hst
    refine hnext _ w' ρ' (hput v') ?_ hh hst
    have hs : Sub ρ ρ' := hst.sub hf
    exact (ht.mono hs).put hv hdst
  | false =>
    rw [hw] at h
    simp only [Bool.false_eq_true, if_false, Option.some.injEq, Prod.mk.injEq] at h ⊢
    obtain ⟨rfl, rfl⟩ := h
    exact hnext _ w ρ (hput undef) (ht.put undef_refl hdst) hr (Stp.refl ..)

/-- Operations in the text's order. -/
theorem seq_sound (hc : CallSound P call) {ops : Array Oper} {Q : Exit → Act → World → Prop} : ∀ (l : List Oper) (i : Nat) (ρ : Rho) (w : World) (a : Act) (tm tm' : Tm) (H H' : AH), ops.toList.drop i = l → (∀ o ∈ ops.toList, operOk N o = true) →
    aSeq P call ops l tm H = some (tm', H') → Fresh ρ H.length H'.length → HR ρ H.get w → TR ρ tm a N →
    (∀ a' w' ρ', a'.defers = a.defers → TR ρ' tm' a' N → HR ρ' H'.get w' → Stp H.length H'.length ρ H.get w ρ' H'.get w' → Q .normal a' w') → wpOps P ops Q (List.range' i l.length) a w
  | [], i, ρ, w, a, tm, tm', H, H', _, _, h, _, hr, ht, hQ => by
    simp only [aSeq, Option.some.injEq, Prod.mk.injEq] at h
    obtain ⟨rfl, rfl⟩ := h
    simp only [List.length_nil, List.range'_zero, wpOps]
    exact hQ a w ρ rfl ht hr (Stp.refl ..)
  | o :: r, i, ρ, w, a, tm, tm', H, H', hd, hok, h, hf, hr, ht, hQ => by
    simp only [aSeq, Option.bind_eq_some_iff] at h
    obtain ⟨⟨tm1, H1⟩, h1, h2⟩ := h
    simp only at h2
    have hle1 := step_le hc h1
    have hle2 := seq_le hc h2
    have hio : ops.toList[i]? = some o := by
      have := congrArg (fun l : List Oper => l[0]?) hd
      simpa using this
    have hi : ops[i]? = some o := by simpa using hio
    have hmem : o ∈ ops.toList := List.mem_iff_getElem?.2 ⟨i, hio⟩
    rw [List.length_cons, List.range'_succ, wpOps_cons]
    refine step_sound hc hi (hok o hmem) h1 (fun b a1 a2 => hf b a1 (by omega)) hr ht ?_
    intro a1 w1 ρ1 hdef ht1 hr1 hst1
    refine seq_sound hc r (i + 1) ρ1 w1 a1 tm1 tm' H1 H' ?_ hok h2 ?_ hr1 ht1 ?_
    · have := congrArg List.tail hd
      simpa [List.tail_drop] using this
    · intro b b1 b2
      rw [hst1.ext b (.inr b1)]
      exact hf b (by omega) b2
    · intro a2 w2 ρ2 hdef2 ht2 hr2 hst2
      exact hQ a2 w2 ρ2 (hdef2.trans hdef) ht2 hr2 (hst1.trans hst2 (fun b hb => get_none hb))

theorem region_sound (hc : CallSound P call) {id : Nat} {ops : Array Oper} {Q : Exit → Act → World → Prop} {tm' : Tm} {H H' : AH} (hok : ∀ o ∈ ops.toList, operOk N o = true) (h : aSeq P call ops ops.toList tm H = some (tm', H'))
    (hf : Fresh ρ H.length H'.length) (hr : HR ρ H.get w) (ht : TR ρ tm a N)
    (hQ : ∀ a' w' ρ', a'.defers = a.defers → TR ρ' tm' a' N → HR ρ' H'.get w' → Stp H.length H'.length ρ H.get w ρ' H'.get w' → Q .normal a' w') : (Code.region id ops false).wp P Q a w := by
  refine wp_region ?_
  have := seq_sound (P := P) hc (Q := Q) ops.toList 0 ρ w a tm tm' H H' rfl hok h hf hr ht hQ
  rwa [List.range_eq_range', Array.length_toList] at *
end
end Go.Proofs.Ytdagncfnkenbfaa.AM
/- The abstract machine, thirteenth part: what an operation looks at, and what must be done ahead of what. -/
namespace Go.Proofs.Ytdagncfnkenbfaa.AM
open Go

def isE : Op → Bool
  | .store .. => true
  | .call ⟨.builtin .append, _, _⟩ => true
  | .call ⟨.value _, _, _⟩ => true
  | _ => false
def isA : Op → Bool
  | .alloc _ | .box .. | .buildSlice .. | .makeSlice .. => true
  | _ => false
def isL : Op → Bool
  | .load .. | .convert .. => true
  | _ => false

def befB (B : Array Nat) (i j : Nat) : Bool := (B.getD j 0).testBit i

theorem before_spec (ops : Array Oper) : (Region.before ops).size = ops.size ∧ ∀ j i, befB (Region.before ops) i j = true →
    ∃ o e, ops[j]? = some o ∧ e ∈ o.after ∧ Region.binds .any e = true ∧ (e.on = i ∨ (e.on < j ∧ befB (Region.before ops) i e.on = true)) := by
  have key : ∀ (l : List Oper) (done : List Oper) (acc : Array Nat), acc.size = done.length →
      (∀ j i, befB acc i j = true → ∃ o e, done[j]? = some o ∧ e ∈ o.after ∧ Region.binds .any e = true ∧ (e.on = i ∨ (e.on < j ∧ befB acc i e.on = true))) →
      let r := l.foldl (fun acc o => acc.push (o.after.foldl (fun s e => if Region.binds .any e then s ||| 2 ^ e.on ||| acc.getD e.on 0 else s) 0)) acc
      r.size = (done ++ l).length ∧ ∀ j i, befB r i j = true → ∃ o e, (done ++ l)[j]? = some o ∧ e ∈ o.after ∧ Region.binds .any e = true ∧ (e.on = i ∨ (e.on < j ∧ befB r i e.on = true)) := by
    intro l
    induction l with
    | nil => intro done acc h1 h2; simp only [List.foldl_nil, List.append_nil]; exact ⟨h1, h2⟩
    | cons o l ih =>
      intro done acc h1 h2
      have := ih (done ++ [o]) (acc.push (o.after.foldl (fun s e => if Region.binds .any e then s ||| 2 ^ e.on ||| acc.getD e.on 0 else s) 0)) (by simp [h1]) ?_
      · simpa using this
      · intro j i hb
        have hold : ∀ j', j' < acc.size → befB (acc.push (o.after.foldl (fun s e => if Region.binds .any e then s ||| 2 ^ e.on ||| acc.getD e.on 0 else s) 0)) i j' = befB acc i j' := by
          intro j' hj'
          simp only [befB, Array.getD_eq_getD_getElem?, Array.getElem?_push]
          rw [if_neg (Nat.ne_of_lt hj')]
        rcases Nat.lt_trichotomy j acc.size with hj | hj | hj
        · rw [hold j hj] at hb
          obtain ⟨o', e, q1, q2, q3, q4⟩ := h2 j i hb
          refine ⟨o', e, ?_, q2, q3, q4.imp id fun ⟨a, b⟩ => ⟨a, by rw [hold _ (by omega)]; exact b⟩⟩
          rw [List.getElem?_append_left (by omega)]; exact q1
        · subst hj
          have hin : ∀ (es : List Edge) (s : Nat), (es.foldl (fun s e => if Region.binds .any e then s ||| 2 ^ e.on ||| acc.getD e.on 0 else s) s).testBit i = true →
              s.testBit i = true ∨ ∃ e ∈ es, Region.binds .any e = true ∧ (e.on = i ∨ befB acc i e.on = true) := by
            intro es
            induction es with
            | nil => intro s h; exact .inl h
            | cons e es ih2 =>
              intro s h
              simp only [List.foldl_cons] at h
              rcases ih2 _ h with h3 | ⟨e', he', q1, q2⟩
              · split at h3
                · rename_i hbd
                  simp only [Nat.testBit_or, Bool.or_eq_true, Nat.testBit_two_pow, decide_eq_true_eq] at h3
                  rcases h3 with (h3 | h3) | h3
                  · exact .inl h3
                  · exact .inr ⟨e, by simp, hbd, .inl h3⟩
                  · exact .inr ⟨e, by simp, hbd, .inr h3⟩
                · exact .inl h3
              · exact .inr ⟨e', by simp [he'], q1, q2⟩
          have e0 : ∀ X : Nat, (acc.push X).getD acc.size 0 = X := fun X => by simp [Array.getD_eq_getD_getElem?]
          unfold befB at hb
          rw [e0, ← Array.foldl_toList] at hb
          rcases hin _ _ hb with h3 | ⟨e, he, q1, q2⟩
          · simp at h3
          · refine ⟨o, e, by rw [h1]; simp, by simpa using he, q1, ?_⟩
            rcases q2 with q2 | q2
            · exact .inl q2
            · right
              have hlt : e.on < acc.size := by
                rcases Nat.lt_or_ge e.on acc.size with hh | hh
                · exact hh
                · simp [befB, Array.getD_eq_getD_getElem?, Array.getElem?_eq_none hh] at q2
              exact ⟨hlt, by rw [hold _ hlt]; exact q2⟩
        · have hn : (acc.push (o.after.foldl (fun s e => if Region.binds .any e then s ||| 2 ^ e.on ||| acc.getD e.on 0 else s) 0))[j]? = none := by
            rw [Array.getElem?_eq_none (by simp; omega)]
          unfold befB at hb
          rw [Array.getD_eq_getD_getElem?, hn] at hb
          simp at hb
  have := key ops.toList [] #[] rfl (by intro j i h; simp [befB] at h)
  simp only [List.nil_append, Array.length_toList] at this
  unfold Region.before
  rw [← Array.foldl_toList]
  refine ⟨this.1, fun j i h => ?_⟩
  obtain ⟨o, e, h1, h2⟩ := this.2 j i h
  exact ⟨o, e, by simpa using h1, h2⟩

def opTmps (o : Op) : List Tmp := o.operands.toList.filterMap fun | .tmp t => some t | _ => none
def guardTmp (ops : Array Oper) (o : Oper) : List Tmp := match o.guard with | some (j, _) => ((ops[j]?).bind (·.dst)).toList | none => []
def looks (ops : Array Oper) (o : Oper) : List Tmp := opTmps o.op ++ guardTmp ops o

/-- What a region that draws its order must be like. -/
def drawOk (ops : Array Oper) : Bool :=
  let B := Region.before ops
  (List.range ops.size).all fun j =>
    match ops[j]? with
    | none => true
    | some o =>
      (o.after.all fun e => !Region.binds .any e || decide (e.on < j)) &&
      (List.range ops.size).all fun i =>
        i == j ||
        match ops[i]? with
        | none => true
        | some oi =>
          (match oi.dst with
            | none => true
            | some t => !(o.dst == some t) && (!(looks ops o).contains t || befB B i j || befB B j i)) &&
          (!(isE oi.op) || !(isE o.op) || !(decide (i < j)) || befB B i j)

structure DrawOk (ops : Array Oper) : Prop where
  edge : ∀ (j : Nat) (o : Oper) e, ops[j]? = some o → e ∈ o.after → Region.binds .any e = true → e.on < j
  dst : ∀ (i j : Nat) oi o t, i ≠ j → ops[i]? = some oi → ops[j]? = some o → oi.dst = some t → o.dst ≠ some t
  tmp : ∀ (i j : Nat) oi o t, i ≠ j → ops[i]? = some oi → ops[j]? = some o → oi.dst = some t → t ∈ looks ops o → befB (Region.before ops) i j = true ∨ befB (Region.before ops) j i = true
  chain : ∀ (i j : Nat) oi o, i < j → ops[i]? = some oi → ops[j]? = some o → isE oi.op = true → isE o.op = true → befB (Region.before ops) i j = true

theorem drawOk_spec {ops : Array Oper} (h : drawOk ops = true) : DrawOk ops := by
  have hlt : ∀ {j : Nat} {o : Oper}, ops[j]? = some o → j < ops.size := fun h => (Array.getElem?_eq_some_iff.1 h).1
  have hj : ∀ (j : Nat) (o : Oper), ops[j]? = some o → (o.after.all fun e => !Region.binds .any e || decide (e.on < j)) = true ∧
      ∀ (i : Nat) (oi : Oper), ops[i]? = some oi → i ≠ j → ((match oi.dst with
            | none => true
            | some t => !(o.dst == some t) && (!(looks ops o).contains t || befB (Region.before ops) i j || befB (Region.before ops) j i)) &&
          (!(isE oi.op) || !(isE o.op) || !(decide (i < j)) || befB (Region.before ops) i j)) = true := by
    intro j o ho
    unfold drawOk at h
    have h1 := (List.all_eq_true.1 h) j (List.mem_range.2 (hlt ho))
    simp only [ho, Bool.and_eq_true] at h1
    refine ⟨h1.1, fun i oi hoi hne => ?_⟩
    have h2 := (List.all_eq_true.1 h1.2) i (List.mem_range.2 (hlt hoi))
    simp only [hoi, Bool.or_eq_true, beq_iff_eq, hne, false_or] at h2
    exact h2
  refine ⟨?_, ?_, ?_, ?_⟩
  · intro j o e ho he hb
    have := (Array.all_eq_true_iff_forall_mem.1 (hj j o ho).1) e he
    simpa [hb] using this
  · intro i j oi o t hne hoi ho hd
    have := (hj j o ho).2 i oi hoi hne
    simp only [hd, Bool.and_eq_true, Bool.not_eq_true', beq_eq_false_iff_ne, ne_eq] at this
    exact this.1.1
  · intro i j oi o t hne hoi ho hd ht
    have := (hj j o ho).2 i oi hoi hne
    simp only [hd, Bool.and_eq_true, Bool.or_eq_true, Bool.not_eq_true', List.contains_eq_mem, decide_eq_false_iff_not] at this
    rcases this.1.2 with (h3 | h3) | h3
    · exact absurd ht h3
    · exact .inl h3
    · exact .inr h3
  · intro i j oi o hlt2 hoi ho he1 he2
    have := (hj j o ho).2 i oi hoi (Nat.ne_of_lt hlt2)
    simp only [Bool.and_eq_true, he1, he2, hlt2, decide_true, Bool.not_true, Bool.false_or] at this
    exact this.2

theorem bef_lt {ops : Array Oper} (h : DrawOk ops) : ∀ (j i : Nat), befB (Region.before ops) i j = true → i < j := by
  intro j
  induction j using Nat.strongRecOn with
  | _ j ih =>
    intro i hb
    obtain ⟨o, e, h1, h2, h3, h4⟩ := (before_spec ops).2 j i hb
    have := h.edge j o e h1 h2 h3
    rcases h4 with rfl | ⟨h5, h6⟩
    · exact this
    · exact Nat.lt_trans (ih e.on h5 i h6) h5

theorem bef_closed {ops : Array Oper} {D : Nat → Prop} (hd : ∀ (j : Nat) o e, ops[j]? = some o → D j → e ∈ o.after → Region.binds .any e = true → D e.on) : ∀ (j i : Nat), D j → befB (Region.before ops) i j = true → D i := by
  intro j
  induction j using Nat.strongRecOn with
  | _ j ih =>
    intro i hj hb
    obtain ⟨o, e, h1, h2, h3, h4⟩ := (before_spec ops).2 j i hb
    have := hd j o e h1 hj h2 h3
    rcases h4 with rfl | ⟨h5, h6⟩
    · exact this
    · exact ih e.on h5 i this h6

/-- What an operation comes to hangs on what it looks at alone. -/
theorem aev_congr {tm tm' : Tm} {x : Operand} (h : ∀ t, x = .tmp t → tm t = tm' t) : aev tm x = aev tm' x := by
  cases x with
  | tmp t => exact h t rfl
  | _ => rfl

theorem aOp_congr {P : Program} {call : CallF} {tm tm' : Tm} {o : Op} {H : AH} (h : ∀ t ∈ opTmps o, tm t = tm' t) : aOp P call (aev tm) o H = aOp P call (aev tm') o H := by
  have hx : ∀ x ∈ o.operands, aev tm x = aev tm' x := by
    intro x hx
    refine aev_congr fun t e => h t ?_
    subst e
    simp only [opTmps, List.mem_filterMap]
    exact ⟨.tmp t, by simpa using hx, rfl⟩
  have hmap : ∀ xs : Array Operand, (∀ x ∈ xs, x ∈ o.operands) → xs.map (aev tm) = xs.map (aev tm') := by
    intro xs hs
    exact Array.map_congr_left fun x hx' => hx x (hs x hx')
  have hopt : ∀ x : Option Operand, (∀ y ∈ x.toArray, y ∈ o.operands) → x.map (aev tm) = x.map (aev tm') := by
    intro x hs
    cases x with
    | none => rfl
    | some y => simp [hx y (hs y (by simp))]
  cases o with
  | call c =>
    obtain ⟨callee, xs, ts⟩ := c
    cases callee with
    | builtin b =>
      have := hmap xs (by simp [Op.operands, Call.operands])
      have hl : xs.toList.map (aev tm) = xs.toList.map (aev tm') := by
        have := congrArg Array.toList this
        simpa using this
      cases b <;> simp only [aOp, aPure, this, hl]
    | value f =>
      have h1 := hmap xs (by simp [Op.operands, Call.operands]; intro x hx; exact .inr hx)
      have h2 := hx f (by simp [Op.operands, Call.operands])
      simp only [aOp, h1, h2]
    | invoke r m => simp only [aOp, aPure]
  | build t ps =>
    have : (ps.map fun (i, x) => (i, aev tm x)) = ps.map fun (i, x) => (i, aev tm' x) := by
      refine Array.map_congr_left fun p hp => ?_
      obtain ⟨i, x⟩ := p
      have := hx x (by simp only [Op.operands]; simp; exact ⟨i, hp⟩)
      simp [this]
    simp only [aOp, aPure, this]
  | buildSlice t n ps =>
    have : (ps.map fun (i, x) => (i, aev tm x)) = ps.map fun (i, x) => (i, aev tm' x) := by
      refine Array.map_congr_left fun p hp => ?_
      obtain ⟨i, x⟩ := p
      have := hx x (by simp only [Op.operands]; simp; exact ⟨i, hp⟩)
      simp [this]
    simp only [aOp, aMake, this]
  | makeFunc fn first cap =>
    have h1 := hmap first (by simp [Op.operands]; intro x hx; exact .inl hx)
    have h2 := hmap cap (by simp [Op.operands]; intro x hx; exact .inr hx)
    simp only [aOp, aPure, h1, h2]
  | slice t x lo hi mx =>
    have h1 := hx x (by simp [Op.operands])
    have h2 := hopt lo (by intro y hy; simp only [Op.operands]; simp at hy ⊢; simp [hy])
    have h3 := hopt hi (by intro y hy; simp only [Op.operands]; simp at hy ⊢; simp [hy])
    cases mx <;> simp only [aOp, aPure, h1, h2, h3]
  | pick c a b =>
    simp only [aOp, aPure, hx c (by simp [Op.operands]), hx a (by simp [Op.operands]), hx b (by simp [Op.operands])]
  | _ => simp only [Op.operands, aOp, aPure, aMake] at * <;> simp_all
end Go.Proofs.Ytdagncfnkenbfaa.AM
/- The abstract machine, fourteenth part: regions that draw their order: the run in the text's order, as a trace. -/
namespace Go.Proofs.Ytdagncfnkenbfaa.AM
open Go

section
variable (P : Program) (call : CallF) (ops : Array Oper) (tm0 : Tm) (H0 : AH)

def preT (i : Nat) : Option (Tm × AH) := aSeq P call ops (ops.toList.take i) tm0 H0
def tT (i : Nat) : Tm := ((preT P call ops tm0 H0 i).getD (tm0, H0)).1
def hT (i : Nat) : AH := ((preT P call ops tm0 H0 i).getD (tm0, H0)).2

def Bnd (p : Nat) : Prop := p = 0 ∨ ∃ e o, p = e + 1 ∧ ops[e]? = some o ∧ isE o.op = true
def Compat (i p : Nat) : Prop := ∀ e o, ops[e]? = some o → isE o.op = true → (befB (Region.before ops) e i = true → e < p) ∧ (befB (Region.before ops) i e = true → p ≤ e)

/-- What is read in the region, is the same at each place of the order where it may be read. -/
def Stable : Prop := ∀ (i : Nat) o x, ops[i]? = some o → rdArg o.op = some x → awanted ops o (tT P call ops tm0 H0 i) = true → ∀ p, Bnd ops p → Compat ops i p →
  aRead P o.op (aev (tT P call ops tm0 H0 i) x) (hT P call ops tm0 H0 p).get = aRead P o.op (aev (tT P call ops tm0 H0 i) x) (hT P call ops tm0 H0 i).get
end

theorem aSeq_append {P : Program} {call : CallF} {ops : Array Oper} : ∀ (l1 l2 : List Oper) (tm : Tm) (H : AH), aSeq P call ops (l1 ++ l2) tm H = (aSeq P call ops l1 tm H).bind fun x => aSeq P call ops l2 x.1 x.2
  | [], l2, tm, H => by simp [aSeq]
  | o :: l1, l2, tm, H => by
    simp only [List.cons_append, aSeq]
    cases aStep P call ops o tm H with
    | none => rfl
    | some x => simp only [Option.bind_some]; exact aSeq_append l1 l2 x.1 x.2

structure Trace (P : Program) (call : CallF) (ops : Array Oper) (tm0 : Tm) (H0 : AH) (tmF : Tm) (HF : AH) (T : Nat → Tm) (H : Nat → AH) : Prop where
  t0 : T 0 = tm0
  h0 : H 0 = H0
  tn : T ops.size = tmF
  hn : H ops.size = HF
  step : ∀ i o, ops[i]? = some o → aStep P call ops o (T i) (H i) = some (T (i + 1), H (i + 1))

theorem trace_of {P : Program} {call : CallF} {ops : Array Oper} {tm0 tmF : Tm} {H0 HF : AH} (h : aSeq P call ops ops.toList tm0 H0 = some (tmF, HF)) :
    Trace P call ops tm0 H0 tmF HF (tT P call ops tm0 H0) (hT P call ops tm0 H0) := by
  have hpre : ∀ i, ∃ x, preT P call ops tm0 H0 i = some x := by
    intro i
    have := aSeq_append (P := P) (call := call) (ops := ops) (ops.toList.take i) (ops.toList.drop i) tm0 H0
    rw [List.take_append_drop, h] at this
    unfold preT
    cases hx : aSeq P call ops (ops.toList.take i) tm0 H0 with
    | none => rw [hx] at this; simp at this
    | some x => exact ⟨x, rfl⟩
  have hval : ∀ i, preT P call ops tm0 H0 i = some (tT P call ops tm0 H0 i, hT P call ops tm0 H0 i) := by
    intro i
    obtain ⟨x, hx⟩ := hpre i
    simp [tT, hT, hx]
  refine ⟨?_, ?_, ?_, ?_, ?_⟩
  · simp [tT, preT, aSeq]
  · simp [hT, preT, aSeq]
  · have := hval ops.size
    unfold preT at this
    rw [List.take_of_length_le (by simp), h] at this
    cases this; rfl
  · have := hval ops.size
    unfold preT at this
    rw [List.take_of_length_le (by simp), h] at this
    cases this; rfl
  · intro i o ho
    have h1 := hval i
    have h2 := hval (i + 1)
    have hlt := (Array.getElem?_eq_some_iff.1 ho).1
    unfold preT at h1 h2
    rw [List.take_succ_eq_append_getElem (by simpa using hlt), aSeq_append, h1] at h2
    simp only [Option.bind_some, aSeq, Option.bind_eq_some_iff] at h2
    obtain ⟨⟨x1, x2⟩, h3, h4⟩ := h2
    simp only [Option.some.injEq, Prod.mk.injEq] at h4
    obtain ⟨rfl, rfl⟩ := h4
    have e : ops.toList[i]'(by simpa using hlt) = o := by
      have := Array.getElem?_eq_some_iff.1 ho
      obtain ⟨_, rfl⟩ := this
      simp
    rw [e] at h3
    exact h3

section
variable {P : Program} {call : CallF} {ops : Array Oper} {tm0 tmF : Tm} {H0 HF : AH} {T : Nat → Tm} {H : Nat → AH}

theorem size_of_get {i : Nat} {o : Oper} (h : ops[i]? = some o) : i < ops.size := (Array.getElem?_eq_some_iff.1 h).1

/-- What an operation that is no effect does to the abstract heap. -/
theorem Trace.quiet (tr : Trace P call ops tm0 H0 tmF HF T H) {i : Nat} {o : Oper} (ho : ops[i]? = some o) (he : isE o.op = false) :
    (isA o.op = true ∧ awanted ops o (T i) = true ∧ ∃ cs inf, aMake P (aev (T i)) o.op = some (cs, inf) ∧ H (i + 1) = H i ++ [⟨cs, .own⟩] ∧ T (i + 1) = aput (T i) o.dst (mkv inf (H i).length)) ∨
    ((isA o.op = false ∨ awanted ops o (T i) = false) ∧ H (i + 1) = H i) := by
  have hs := tr.step i o ho
  unfold aStep at hs
  cases hw : awanted ops o (T i) with
  | false =>
    rw [hw] at hs
    simp only [Bool.false_eq_true, if_false, Option.some.injEq, Prod.mk.injEq] at hs
    exact .inr ⟨.inr rfl, hs.2.symm⟩
  | true =>
    rw [hw] at hs
    simp only [if_true, Option.map_eq_some_iff, Prod.mk.injEq] at hs
    obtain ⟨⟨v, H1⟩, h1, h2, h3⟩ := hs
    simp only at h2 h3
    have hmk : ∀ op, o.op = op → isA op = true → (aOp P call (aev (T i)) op (H i) = (aMake P (aev (T i)) op).map fun x => (mkv x.2 (H i).length, H i ++ [⟨x.1, .own⟩])) →
        (isA o.op = true ∧ true = true ∧ ∃ cs inf, aMake P (aev (T i)) o.op = some (cs, inf) ∧ H (i + 1) = H i ++ [⟨cs, .own⟩] ∧ T (i + 1) = aput (T i) o.dst (mkv inf (H i).length)) ∨ ((isA o.op = false ∨ true = false) ∧ H (i + 1) = H i) := by
      rintro op rfl ha hop
      rw [hop] at h1
      simp only [Option.map_eq_some_iff, Prod.mk.injEq] at h1
      obtain ⟨⟨cs, inf⟩, hm, rfl, rfl⟩ := h1
      exact .inl ⟨ha, rfl, cs, inf, hm, h3.symm, h2.symm⟩
    have hpu : isA o.op = false → H1 = H i → (isA o.op = true ∧ true = true ∧ ∃ cs inf, aMake P (aev (T i)) o.op = some (cs, inf) ∧ H (i + 1) = H i ++ [⟨cs, .own⟩] ∧ T (i + 1) = aput (T i) o.dst (mkv inf (H i).length)) ∨ ((isA o.op = false ∨ true = false) ∧ H (i + 1) = H i) :=
      fun a b => .inr ⟨.inl a, by rw [← h3, b]⟩
    cases hop : o.op with
    | alloc t => rw [← hop]; exact hmk _ hop (by rfl) rfl
    | box t x => rw [← hop]; exact hmk _ hop (by rfl) rfl
    | buildSlice t n ps => rw [← hop]; exact hmk _ hop (by rfl) rfl
    | makeSlice t l c => rw [← hop]; exact hmk _ hop (by rfl) rfl
    | store t a v => rw [hop] at he; simp [isE] at he
    | call c =>
      obtain ⟨callee, xs, ts⟩ := c
      rw [← hop]
      refine hpu (by rw [hop]; rfl) ?_
      rw [hop] at h1 he
      cases callee with
      | builtin b =>
        cases b with
        | append => simp [isE] at he
        | _ =>
          simp only [aOp, Option.map_eq_some_iff, Prod.mk.injEq] at h1
          obtain ⟨_, _, _, rfl⟩ := h1
          rfl
      | value f => simp [isE] at he
      | invoke r m =>
        simp only [aOp, Option.map_eq_some_iff, Prod.mk.injEq] at h1
        obtain ⟨_, _, _, rfl⟩ := h1
        rfl
    | _ =>
      rw [← hop]
      refine hpu (by rw [hop]; rfl) ?_
      rw [hop] at h1
      simp only [aOp, Option.map_eq_some_iff, Prod.mk.injEq] at h1
      obtain ⟨_, _, _, rfl⟩ := h1
      rfl

def isAl (ops : Array Oper) (T : Nat → Tm) (j : Nat) : Prop := ∃ o, ops[j]? = some o ∧ isA o.op = true ∧ awanted ops o (T j) = true

theorem Trace.len_le (hc : CallSound P call) (tr : Trace P call ops tm0 H0 tmF HF T H) {i j : Nat} (hij : i ≤ j) (hj : j ≤ ops.size) : (H i).length ≤ (H j).length := by
  induction j with
  | zero => have : i = 0 := by omega
            subst this; exact Nat.le_refl _
  | succ j ih =>
    by_cases h : i = j + 1
    · subst h; exact Nat.le_refl _
    · have hlt : j < ops.size := by omega
      exact Nat.le_trans (ih (by omega) (by omega)) (step_le hc (tr.step j ops[j] (Array.getElem?_eq_getElem hlt)))

/-- Where no effect stands between, what was there is there. -/
theorem Trace.flat (hc : CallSound P call) (tr : Trace P call ops tm0 H0 tmF HF T H) {p q : Nat} (hpq : p ≤ q) (hq : q ≤ ops.size) (hno : ∀ i o, p ≤ i → i < q → ops[i]? = some o → isE o.op = false) :
    ∀ b, b < (H p).length → (H q)[b]? = (H p)[b]? := by
  induction q with
  | zero => have : p = 0 := by omega
            subst this; intro b _; rfl
  | succ q ih =>
    by_cases h : p = q + 1
    · subst h; intro b _; rfl
    · intro b hb
      have hlt : q < ops.size := by omega
      have hg := Array.getElem?_eq_getElem hlt
      rw [← ih (by omega) (by omega) (fun i o a1 a2 => hno i o a1 (by omega)) b hb]
      have hle := tr.len_le hc (i := p) (j := q) (by omega) (by omega)
      rcases tr.quiet hg (hno q _ (by omega) (by omega) hg) with ⟨_, _, cs, inf, _, e, _⟩ | ⟨_, e⟩
      · rw [e, List.getElem?_append_left (by omega)]
      · rw [e]

/-- A block's first content. -/
def iniU (H : Nat → AH) : Nat → Hp
  | 0, b => (H 0)[b]?
  | i + 1, b => if b < (H i).length then iniU H i b else (H (i + 1))[b]?

theorem Trace.ini (hc : CallSound P call) (tr : Trace P call ops tm0 H0 tmF HF T H) {j b : Nat} (hj : j < ops.size) (h1 : (H j).length ≤ b) (h2 : b < (H (j + 1)).length) : iniU H ops.size b = (H (j + 1))[b]? := by
  have key : ∀ i, j + 1 ≤ i → i ≤ ops.size → iniU H i b = (H (j + 1))[b]? := by
    intro i
    induction i with
    | zero => intro h; omega
    | succ i ih =>
      intro hi hn
      simp only [iniU]
      by_cases h : i = j
      · subst h
        rw [if_neg (by omega)]
      · have := tr.len_le hc (i := j + 1) (j := i) (by omega) (by omega)
        rw [if_pos (by omega)]
        exact ih (by omega) (by omega)
  exact key ops.size (by omega) (Nat.le_refl _)
theorem Trace.ini_out (hc : CallSound P call) (tr : Trace P call ops tm0 H0 tmF HF T H) {b : Nat} (hb : (H ops.size).length ≤ b) : iniU H ops.size b = none := by
  cases hn : ops.size with
  | zero => rw [hn] at hb; simp [iniU, hb]
  | succ n =>
    have := tr.len_le hc (i := n) (j := ops.size) (by omega) (Nat.le_refl _)
    rw [hn] at hb this
    simp only [iniU]
    rw [if_neg (by omega)]
    simp [hb]

/-! ### slots -/
def wr (ops : Array Oper) (t i : Nat) : Bool := (ops[i]?).bind (·.dst) == some t
def val (ops : Array Oper) (T : Nat → Tm) (D : Nat → Bool) : Tm := fun t =>
  match (List.range ops.size).find? fun i => D i && wr ops t i with
  | some i => T (i + 1) t
  | none => T 0 t

theorem wr_iff {t i : Nat} : wr ops t i = true ↔ ∃ o, ops[i]? = some o ∧ o.dst = some t := by
  unfold wr
  cases h : ops[i]? with
  | none => simp
  | some o => simp

theorem val_done (hd : DrawOk ops) {D : Nat → Bool} {i t : Nat} {o : Oper} (hi : D i = true) (ho : ops[i]? = some o) (ht : o.dst = some t) : val ops T D t = T (i + 1) t := by
  unfold val
  have : (List.range ops.size).find? (fun i => D i && wr ops t i) = some i := by
    cases hf : (List.range ops.size).find? (fun i => D i && wr ops t i) with
    | none =>
      rw [List.find?_eq_none] at hf
      have := hf i (List.mem_range.2 (size_of_get ho))
      simp [hi, wr_iff.2 ⟨o, ho, ht⟩] at this
    | some k =>
      have h1 := List.find?_some hf
      simp only [Bool.and_eq_true] at h1
      obtain ⟨o', ho', ht'⟩ := wr_iff.1 h1.2
      by_cases e : k = i
      · rw [e]
      · exact absurd ht' (hd.dst i k o o' t (Ne.symm e) ho ho' ht)
  rw [this]
theorem val_none {D : Nat → Bool} {t : Nat} (h : ∀ i o, D i = true → ops[i]? = some o → o.dst ≠ some t) : val ops T D t = T 0 t := by
  unfold val
  have : (List.range ops.size).find? (fun i => D i && wr ops t i) = none := by
    rw [List.find?_eq_none]
    intro k _ hk
    simp only [Bool.and_eq_true] at hk
    obtain ⟨o', ho', ht'⟩ := wr_iff.1 hk.2
    exact h k o' hk.1 ho' ht'
  rw [this]

theorem Trace.slot (tr : Trace P call ops tm0 H0 tmF HF T H) {a b t : Nat} (hab : a ≤ b) (hb : b ≤ ops.size) (h : ∀ i o, a ≤ i → i < b → ops[i]? = some o → o.dst ≠ some t) : T b t = T a t := by
  induction b with
  | zero => have : a = 0 := by omega
            subst this; rfl
  | succ b ih =>
    by_cases e : a = b + 1
    · subst e; rfl
    · have hlt : b < ops.size := by omega
      have hg := Array.getElem?_eq_getElem hlt
      rw [← ih (by omega) (by omega) (fun i o h1 h2 => h i o h1 (by omega))]
      have hs := tr.step b _ hg
      have hne := h b _ (by omega) (by omega) hg
      have hp : ∀ v, aput (T b) (ops[b]).dst v t = T b t := by
        intro v
        cases hd : (ops[b]).dst with
        | none => rfl
        | some d =>
          simp only [aput]
          rw [if_neg]
          rintro rfl
          exact hne hd
      unfold aStep at hs
      split at hs
      · simp only [Option.map_eq_some_iff, Prod.mk.injEq] at hs
        obtain ⟨x, _, h2, _⟩ := hs
        rw [← h2, hp]
      · simp only [Option.some.injEq, Prod.mk.injEq] at hs
        rw [← hs.1, hp]

/-- What an operation that comes next looks at, is what it looks at in the text's order. -/
theorem Trace.val_read (tr : Trace P call ops tm0 H0 tmF HF T H) (hd : DrawOk ops) {D : Nat → Bool} {j t : Nat} {o : Oper} (ho : ops[j]? = some o) (hj : D j = false)
    (hpre : ∀ i, befB (Region.before ops) i j = true → D i = true) (hclosed : ∀ k i, D k = true → befB (Region.before ops) i k = true → D i = true) (ht : t ∈ looks ops o) : val ops T D t = T j t := by
  have hjn := size_of_get ho
  by_cases hw : ∃ (i : Nat) (oi : Oper), ops[i]? = some oi ∧ oi.dst = some t ∧ i ≠ j
  · obtain ⟨i, oi, hoi, hdi, hne⟩ := hw
    have huniq : ∀ k ok, k ≠ i → ops[k]? = some ok → ok.dst ≠ some t := fun k ok hk hok => hd.dst i k oi ok t (Ne.symm hk) hoi hok hdi
    rcases hd.tmp i j oi o t hne hoi ho hdi ht with hb | hb
    · -- it writes ahead
      have hlt := bef_lt hd j i hb
      rw [val_done hd (hpre i hb) hoi hdi]
      exact (tr.slot (a := i + 1) (b := j) (t := t) (by omega) (by omega) (fun k ok h1 h2 hok => huniq k ok (by omega) hok)).symm
    · -- it writes later
      have hlt := bef_lt hd i j hb
      have hDi : D i = false := by
        cases hDi : D i with
        | false => rfl
        | true => rw [hclosed i j hDi hb] at hj; cases hj
      rw [val_none (fun k ok hDk hok => by
        by_cases e : k = i
        · subst e; rw [hDi] at hDk; cases hDk
        · exact huniq k ok e hok)]
      exact (tr.slot (a := 0) (b := j) (t := t) (by omega) (by omega) (fun k ok h1 h2 hok => huniq k ok (by omega) hok)).symm
  · have hno : ∀ k ok, k ≠ j → ops[k]? = some ok → ok.dst ≠ some t := fun k ok hk hok hdk => hw ⟨k, ok, hok, hdk, hk⟩
    rw [val_none (fun k ok hDk hok => by
        by_cases e : k = j
        · subst e; rw [hj] at hDk; cases hDk
        · exact hno k ok e hok)]
    exact (tr.slot (a := 0) (b := j) (t := t) (by omega) (by omega) (fun k ok h1 h2 hok => hno k ok (by omega) hok)).symm

theorem Trace.val_all (tr : Trace P call ops tm0 H0 tmF HF T H) (hd : DrawOk ops) {D : Nat → Bool} (hall : ∀ i, i < ops.size → D i = true) : val ops T D = tmF := by
  funext t
  rw [← tr.tn]
  by_cases hw : ∃ (i : Nat) (oi : Oper), ops[i]? = some oi ∧ oi.dst = some t
  · obtain ⟨i, oi, hoi, hdi⟩ := hw
    have hin := size_of_get hoi
    rw [val_done hd (hall i hin) hoi hdi]
    exact (tr.slot (a := i + 1) (b := ops.size) (t := t) (by omega) (Nat.le_refl _) (fun k ok h1 h2 hok => hd.dst i k oi ok t (by omega) hoi hok hdi)).symm
  · rw [val_none (fun k ok _ hok hdk => hw ⟨k, ok, hok, hdk⟩)]
    exact (tr.slot (a := 0) (b := ops.size) (t := t) (by omega) (Nat.le_refl _) (fun k ok _ _ hok hdk => hw ⟨k, ok, hok, hdk⟩)).symm

/-- Behind an operation: its slot bears what it bears in the text's order. -/
theorem val_put (hd : DrawOk ops) {D D' : Nat → Bool} {j : Nat} {o : Oper} (ho : ops[j]? = some o) (hD' : ∀ i, D' i = if i = j then true else D i) (t : Nat) :
    val ops T D' t = if o.dst = some t then T (j + 1) t else val ops T D t := by
  by_cases h : o.dst = some t
  · rw [if_pos h, val_done hd (by simp [hD']) ho h]
  · rw [if_neg h]
    by_cases hw : ∃ (i : Nat) (oi : Oper), D i = true ∧ ops[i]? = some oi ∧ oi.dst = some t
    · obtain ⟨i, oi, hDi, hoi, hdi⟩ := hw
      rw [val_done hd hDi hoi hdi, val_done hd (by rw [hD']; split <;> simp [hDi]) hoi hdi]
    · rw [val_none (fun k ok hDk hok hdk => hw ⟨k, ok, hDk, hok, hdk⟩), val_none (fun k ok hDk hok hdk => by
        rw [hD'] at hDk
        by_cases e : k = j
        · subst e; rw [ho] at hok; cases hok; exact h hdk
        · rw [if_neg e] at hDk; exact hw ⟨k, ok, hDk, hok, hdk⟩)]
end
end Go.Proofs.Ytdagncfnkenbfaa.AM
