/- FnCodeBytes returns true for every input, and its input reads behind the call as it read before. -/
import Derived.Test.YtdagncfnkenbfaaP6
set_option linter.unusedVariables false
set_option linter.unusedSimpArgs false
set_option linter.defProp false
set_option maxRecDepth 100000
/- FnCodeBytes returns true for every input, and its input reads behind the call as it read before. -/
namespace Go.Proofs.Ytdagncfnkenbfaa.AM.fnCodeBytes
open Go Go.Proofs.Ytdagncfnkenbfaa Go.Proofs
open Go.Proofs.Ytdagncfnkenbfaa.AM Go.ChangeShapes Go.WideShapes Go.ChangeAt Go.RowKit
theorem own : ownKnob Try.prog.godebug = none := by kernel_rfl
theorem laidOut : laidOutB Try.prog = true := by kernel_rfl
theorem mixed : Try.prog.follows .mixedOrders = true := by kernel_rfl
set_option maxRecDepth 100000 in
theorem lifted (os : Os) (started : os.Started) (H : Type) (enc : TypeId × Value → H) :
    ReturnsInHanded {} Try.checked os 6 .any (Rows.fnCodeBytesSpec.pre6 enc Try.prog Try.f6 Rows.fnCodeBytesRow.domain false) (Rows.fnCodeBytesSpec.post enc Try.prog Try.f6 false true false false) := by
  refine returnsInHanded_of_change_sized (C := Try.checked) own started (by kernel_rfl) Try.func6
    (ChangeSpec.witness6 (enc := enc) (C := Try.checked) false ⟨#[], #[.slice none 0 0], []⟩ 8 (by kernel_rfl) (by kernel_rfl) (by kernel_rfl) (by kernel_rfl)) ?_
  intro W base args ds gs before hval0 hW hcnd hsz0 _
  have hval : ∀ (j : Nat) t v, Try.f6.params[j]? = some t → args[j]? = some v → Value.okWide Try.prog W .any base t v := hval0
  have hW' := hW
  obtain ⟨p, q, hA0, hV, rfl, hfz, hnd⟩ := hW
  have hA : DataW.TrodAll enc Try.prog W 0 (fun _ => true) true Try.f6.params.toList args.toList ds p := hA0
  rw [Try.params6] at hA hval
  obtain ⟨rfl, rfl⟩ := trodVars_none hV
  refine (law_walk (m := 12) (base := base) mixed laidOut (by kernel_rfl) (by kernel_rfl) law6 (fun j t v a b => hval j t v (by simpa using a) b) hA).mono fun e W' ⟨he, bel, back⟩ => ?_
  subst he
  obtain ⟨_, _, d0, _, p0, _, _, rfl, rfl, _, r0⟩ := trodAll_cons hA
  obtain ⟨_, rfl, rfl⟩ := trodAll_nil r0
  exact ⟨_, rfl, _, _, _, [], _, [], hW', trodAll_mk1 (shut_bool Try.underlying4 _), back, rfl, bel.frame _, fun h => by cases h⟩
theorem over : Rows.fnCodeBytesRow.holds Try.pinned (OpenSpec.ofChange Rows.fnCodeBytesSpec) :=
  OpenClaim.holds_of_wide 6 Try.f6 rfl rfl rfl rfl rfl rfl rfl ⟨rfl, rfl, rfl, rfl, rfl⟩ rfl rfl rfl rfl rfl (by kernel_rfl) Try.func6 (by kernel_rfl)
    (of_decide_eq_true (by kernel_rfl)) (by unfold Func.isWrapper; first | (rw [if_pos (by decide +kernel)]; kernel_rfl) | (rw [if_neg (by decide +kernel)]; exact ⟨rfl, rfl⟩))
    (fun os started H enc _ => lifted os started H enc)
end Go.Proofs.Ytdagncfnkenbfaa.AM.fnCodeBytes
namespace Go.Proofs.Ytdagncfnkenbfaa
theorem fnCodeBytes_holds : Rows.FnCodeBytesSaid := AM.fnCodeBytes.over
end Go.Proofs.Ytdagncfnkenbfaa
