/- GradeSteps: the claim. No conditions. -/
import Derived.Test.YtneegcnidoopmaaL4
import Derived.Test.YtneegcnidoopmaaOs
namespace Go.Proofs.Ytneegcnidoopmaa
open Go.ChangeShapes Go.RowKit

set_option maxRecDepth 100000 in
theorem steps_lifted (os : Os) (started : os.Started) (H : Type) (enc : TypeId × Value → H) :
    ReturnsInHanded {} Try.checked os 6 .any (Rows.gradeStepsSpec.pre6 enc Try.prog Try.f6 [] false) (Rows.gradeStepsSpec.post enc Try.prog Try.f6 false true false false) := by
  refine law_lift (C := Try.checked) Try.own started (by kernel_rfl) Try.func6
    (ChangeSpec.witness6 (enc := enc) (C := Try.checked) false ⟨#[], #[.agg #[.int .i64 0, .int .i64 0, .slice none 0 0], .slice none 0 0], []⟩ 8 (by kernel_rfl) (by kernel_rfl) (by kernel_rfl) (by kernel_rfl))
    rfl Try.underlying4 rfl Try.laidOut (by kernel_rfl) (fun ds hd => ?_) ?_
  · match ds, hd with
    | [d1, d2], _ => exact ⟨rfl, rfl, rfl⟩
  · intro W base args ds p hval0 hA0
    have hval : ∀ (j : Nat) t v, Try.f6.params[j]? = some t → args[j]? = some v → Value.okWide Try.prog W .any base t v := hval0
    have hA : DataW.TrodAll enc Try.prog W 0 (fun _ => true) true Try.f6.params.toList args.toList ds p := hA0
    rw [Try.params6] at hA hval
    obtain ⟨v0, v1, d0, d1, p0, p1, rfl, rfl, rfl, h0, h1⟩ := ChangeShapes.trodAll_two hA
    obtain ⟨PW, PH, A, n, cap, R, G, B, rfl, hn, _, _, hd⟩ := open_sheet h0
    obtain ⟨Al, m, capl, C, KK, L, hcs, hm, hL, hS⟩ := open_steps h1
    obtain ⟨a0, len, cap0, rfl⟩ := WideShapes.okWide_slice Try.underlying64 (hval 1 _ v1 rfl rfl)
    have hcs' : [Value.slice a0 len cap0] = [.slice Al m capl] := hcs
    injection hcs' with e _
    rw [e]
    exact steps_law L PW PH A n cap R G B Al m capl C KK W hn hm hL hd hS

theorem GradeSteps_holds : Rows.GradeStepsSaid :=
  OpenClaim.holds_of_wide 6 Try.f6 rfl rfl rfl rfl rfl rfl rfl ⟨rfl, rfl, rfl, rfl, rfl⟩ rfl rfl rfl rfl rfl (by kernel_rfl) Try.func6 (by kernel_rfl)
    (of_decide_eq_true (by kernel_rfl)) (by unfold Func.isWrapper; rw [if_neg (of_decide_eq_false (by kernel_rfl))]; exact ⟨rfl, rfl⟩)
    (fun os started H enc _ => steps_lifted os started H enc)
#print axioms GradeSteps_holds
end Go.Proofs.Ytneegcnidoopmaa
