/- GradeTables: the claim. No conditions. -/
import Derived.Test.YtneegcnidoopmaaL3
import Derived.Test.YtneegcnidoopmaaOp
namespace Go.Proofs.Ytneegcnidoopmaa
open Go.ChangeShapes Go.RowKit

set_option maxRecDepth 100000 in
theorem tables_lifted (os : Os) (started : os.Started) (H : Type) (enc : TypeId × Value → H) :
    ReturnsInHanded {} Try.checked os 5 .any (Rows.gradeTablesSpec.pre6 enc Try.prog Try.f5 [] false) (Rows.gradeTablesSpec.post enc Try.prog Try.f5 false true false false) := by
  refine law_lift (C := Try.checked) Try.own started (by kernel_rfl) Try.func5
    (ChangeSpec.witness6 (enc := enc) (C := Try.checked) false ⟨#[], #[.slice none 0 0, .slice none 0 0, .agg #[.int .i64 0, .int .i64 0, .slice none 0 0]], []⟩ 8 (by kernel_rfl) (by kernel_rfl) (by kernel_rfl) (by kernel_rfl))
    rfl Try.underlying4 rfl Try.laidOut (by kernel_rfl) (fun ds hd => ?_) ?_
  · match ds, hd with
    | [d1, d2, d3], _ => exact ⟨rfl, rfl, rfl⟩
  · intro W base args ds p hval0 hA0
    have hval : ∀ (j : Nat) t v, Try.f5.params[j]? = some t → args[j]? = some v → Value.okWide Try.prog W .any base t v := hval0
    have hA : DataW.TrodAll enc Try.prog W 0 (fun _ => true) true Try.f5.params.toList args.toList ds p := hA0
    rw [Try.params5] at hA hval
    obtain ⟨v0, r0, d0, e0, p0, q0, ha, rfl, rfl, h0, hr0⟩ := trodAll_cons hA
    obtain ⟨v1, r1, d1, e1, p1, q1, rfl, rfl, rfl, h1, hr1⟩ := trodAll_cons hr0
    obtain ⟨v2, r2, d2, e2, p2, q2, rfl, rfl, rfl, h2, hr2⟩ := trodAll_cons hr1
    obtain ⟨rfl, rfl, rfl⟩ := trodAll_nil hr2
    obtain rfl : args = #[v0, v1, v2] := by rw [show args = args.toList.toArray by simp, ha]
    obtain ⟨A, n, cap, X, Y, rfl, hn, hc⟩ := open_pins (hval 0 _ v0 rfl rfl) h0
    obtain ⟨A1, n1, cap1, X1, Y1, rfl, hn1, hc1⟩ := open_pins (hval 1 _ v1 rfl rfl) h1
    obtain ⟨PW, PH, A2, m, cap2, R, G, B, rfl, hm, _, _, hd, hB, hnil⟩ := open_pic h2
    exact tables_law A n cap X Y A1 n1 cap1 X1 Y1 PW PH A2 m cap2 R G B W hn hn1 hm hc hc1 hd hB hnil

theorem GradeTables_holds : Rows.GradeTablesSaid :=
  OpenClaim.holds_of_wide 5 Try.f5 rfl rfl rfl rfl rfl rfl rfl ⟨rfl, rfl, rfl, rfl, rfl⟩ rfl rfl rfl rfl rfl (by kernel_rfl) Try.func5 (by kernel_rfl)
    (of_decide_eq_true (by kernel_rfl)) (by unfold Func.isWrapper; rw [if_neg (of_decide_eq_false (by kernel_rfl))]; exact ⟨rfl, rfl⟩)
    (fun os started H enc _ => tables_lifted os started H enc)
#print axioms GradeTables_holds
end Go.Proofs.Ytneegcnidoopmaa
