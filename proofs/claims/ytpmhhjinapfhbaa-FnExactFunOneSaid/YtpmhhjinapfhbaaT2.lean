/- FnExactFunOne returns true for every input, and its input reads behind the call as it read before. -/
import Derived.Test.YtpmhhjinapfhbaaT1
set_option linter.unusedVariables false
set_option linter.unusedSimpArgs false
/- FnExactFunOne returns true for every input, and its input reads behind the call as it read before. -/
namespace Go.Proofs.Ytpmhhjinapfhbaa.AM
open Go Go.Proofs.Ytpmhhjinapfhbaa Go.Proofs

theorem RpA.cons {P : Program} {H : AH} {t : TypeId} {ts : List TypeId} {vs : List Value} (h : RpA P H (t :: ts) vs) : ∃ v vs', vs = v :: vs' ∧ RpV P H t v ∧ RpA P H ts vs' := by
  cases vs with
  | nil => exact h.elim
  | cons v vs => exact ⟨v, vs, rfl, h.1, h.2⟩
theorem RpA.nil {P : Program} {H : AH} {vs : List Value} (h : RpA P H [] vs) : vs = [] := by
  cases vs with
  | nil => rfl
  | cons v vs => exact h.elim
theorem Rp.int {P : Program} {H : AH} {k : Nat} {t : TypeId} {q : IntKind} {vs : List Value} (hu : P.underlying t = some (.int q)) (h : Rp P H k t vs) : ∃ n, vs = [.int q n] ∧ (Lit.int q n).wf = true := by
  cases k with
  | zero => exact h.elim
  | succ k => simpa only [Rp, hu] using h
theorem Rp.struct {P : Program} {H : AH} {k : Nat} {t : TypeId} {fs : Array Field} {vs : List Value} (hu : P.underlying t = some (.struct fs)) (h : Rp P H k t vs) :
    vs.length = P.cellsOf t ∧ ∃ k, ∀ f ∈ fs.toList, Rp P H k f.type ((vs.drop f.offset).take (P.cellsOf f.type)) := by
  cases k with
  | zero => exact h.elim
  | succ k =>
    simp only [Rp, hu] at h
    exact ⟨h.1, k, h.2⟩

theorem c3 : Try.prog.cellsOf 3 = 1 := by kernel_rfl
theorem c23 : Try.prog.cellsOf 23 = 3 := by kernel_rfl
theorem list3 {α : Type} {l : List α} (h : l.length = 3) : ∃ a b c, l = [a, b, c] := by
  match l, h with
  | [a, b, c], _ => exact ⟨a, b, c, rfl⟩
theorem rp23 {H : AH} {v : Value} (h : RpV Try.prog H 23 v) : ∃ a b c, v = .agg #[.int .i64 a, .int .i64 b, .int .i64 c] := by
  obtain ⟨k, vs, h, rfl⟩ := h
  obtain ⟨h1, k, h2⟩ := h.struct Try.underlying23
  rw [c23] at h1
  obtain ⟨x, y, z, rfl⟩ := list3 h1
  simp only [List.forall_mem_cons, List.not_mem_nil, false_implies, implies_true, and_true, c3, List.drop_zero, List.drop_succ_cons, List.take_succ_cons, List.take_zero] at h2
  obtain ⟨ha, hb, hc⟩ := h2
  obtain ⟨a, ha, _⟩ := ha.int Try.underlying3
  obtain ⟨b, hb, _⟩ := hb.int Try.underlying3
  obtain ⟨c, hc, _⟩ := hc.int Try.underlying3
  simp only [List.cons.injEq, and_true] at ha hb hc
  subst ha; subst hb; subst hc
  exact ⟨a, b, c, by simp [mkV, Try.underlying23]⟩
theorem law3 : LawA Try.prog 3 [23] := by
  intro H vs _ h
  obtain ⟨v, vs, rfl, h1, h2⟩ := h.cons
  obtain rfl := h2.nil
  obtain ⟨a, b, c, rfl⟩ := rp23 h1
  exact lawFunOne_ok a b c H

open Go.ChangeShapes Go.WideShapes Go.ChangeAt Go.RowKit
theorem own : ownKnob Try.prog.godebug = none := by kernel_rfl
theorem laidOut : laidOutB Try.prog = true := by kernel_rfl
theorem mixed : Try.prog.follows .mixedOrders = true := by kernel_rfl
set_option maxRecDepth 100000 in
theorem lifted (os : Os) (started : os.Started) (H : Type) (enc : TypeId × Value → H) :
    ReturnsInHanded {} Try.checked os 3 .any (Rows.fnExactFunOneSpec.pre6 enc Try.prog Try.f3 Rows.fnExactFunOneRow.domain false) (Rows.fnExactFunOneSpec.post enc Try.prog Try.f3 false true false false) := by
  refine returnsInHanded_of_change_sized (C := Try.checked) own started (by kernel_rfl) Try.func3
    (ChangeSpec.witness6 (enc := enc) (C := Try.checked) false ⟨#[], #[.agg #[.int .i64 0, .int .i64 0, .int .i64 0]], []⟩ 8 (by kernel_rfl) (by kernel_rfl) (by kernel_rfl) (by kernel_rfl)) ?_
  intro W base args ds gs before hval0 hW hcnd hsz0 _
  have hval : ∀ (j : Nat) t v, Try.f3.params[j]? = some t → args[j]? = some v → Value.okWide Try.prog W .any base t v := hval0
  have hW' := hW
  obtain ⟨p, q, hA0, hV, rfl, hfz, hnd⟩ := hW
  have hA : DataW.TrodAll enc Try.prog W 0 (fun _ => true) true Try.f3.params.toList args.toList ds p := hA0
  rw [Try.params3] at hA hval
  obtain ⟨rfl, rfl⟩ := trodVars_none hV
  refine (law_walk (m := 8) mixed laidOut (by kernel_rfl) (by kernel_rfl) law3 (fun j t v a b => hval j t v (by simpa using a) b) hA).mono fun e W' ⟨he, bel, back⟩ => ?_
  subst he
  obtain ⟨_, _, d0, _, p0, _, _, rfl, rfl, _, r0⟩ := trodAll_cons hA
  obtain ⟨_, rfl, rfl⟩ := trodAll_nil r0
  exact ⟨_, rfl, _, _, _, [], _, [], hW', trodAll_mk1 (shut_bool Try.underlying4 _), back, rfl, bel.frame _, fun h => by cases h⟩
theorem over : Rows.fnExactFunOneRow.holds Try.pinned (OpenSpec.ofChange Rows.fnExactFunOneSpec) :=
  OpenClaim.holds_of_wide 3 Try.f3 rfl rfl rfl rfl rfl rfl rfl ⟨rfl, rfl, rfl, rfl, rfl⟩ rfl rfl rfl rfl rfl (by kernel_rfl) Try.func3 (by kernel_rfl)
    (of_decide_eq_true (by kernel_rfl)) (by unfold Func.isWrapper; first | (rw [if_pos (by decide +kernel)]; kernel_rfl) | (rw [if_neg (by decide +kernel)]; exact ⟨rfl, rfl⟩))
    (fun os started H enc _ => lifted os started H enc)
theorem proved : Rows.FnExactFunOneSaid := over
end Go.Proofs.Ytpmhhjinapfhbaa.AM
namespace Go.Proofs.Ytpmhhjinapfhbaa
theorem fnExactFunOne_holds : Rows.FnExactFunOneSaid := AM.proved
end Go.Proofs.Ytpmhhjinapfhbaa
