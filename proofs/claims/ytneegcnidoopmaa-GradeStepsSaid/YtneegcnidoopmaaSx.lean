/- Contracts of grade.Tint and grade.Contrast: closures over a captured light. No conditions. -/
import Derived.Test.YtneegcnidoopmaaSw
namespace Go.Proofs.Ytneegcnidoopmaa
open Go.RowKit

theorem tint_any (b0 b1 b2 : Int) (w : World) : Calls Try.prog 70 #[.agg #[.int .i64 b0, .int .i64 b1, .int .i64 b2]] w fun e w' => e = .returned (.func (.func 109) #[] #[.pointer (some ⟨w.heap.size, 0, none⟩)]) ∧ Blk w' w.heap.size #[.int .i64 b0, .int .i64 b1, .int .i64 b2] 151 ∧ Grew w w' := by
  go_enter Try.func70, Try.ntmps70
  go_wp2
  go_ret
  exact ⟨rfl, (by repeat (first | assumption | (refine Blk.at_ _ _ ?_; simp; done) | refine Blk.alloc ?_ _ | refine Blk.drew ?_ | refine Blk.ext ?_ _ | exact Blk.set (by assumption) _ _ | (refine Blk.other ?_ ?_ _; rotate_left; (simp <;> omega)))), Grew.of (by repeat (first | assumption | exact gr_refl _ | refine gr_alloc ?_ _ | refine gr_drew ?_ | refine gr_drewN ?_ _ | refine gr_ext ?_ _ | (refine gr_set ?_ ?_ _; rotate_left; (simp <;> omega))))⟩
theorem contrast_any (m b : Int) (w : World) : Calls Try.prog 73 #[.int .i64 m, .int .i64 b] w fun e w' => ∃ q, e = .returned (.func (.func 115) #[] #[.pointer (some ⟨q, 0, none⟩), .pointer (some ⟨w.heap.size, 0, none⟩)]) ∧ Blk w' q #[.int .i64 m, .int .i64 m, .int .i64 m] 151 ∧ Blk w' w.heap.size #[.int .i64 b] 28 ∧ Grew w w' := by
  go_enter Try.func73, Try.ntmps73
  go_wp2_with (go_at_call 113; refine (gray_any _ _).mono ?_; rintro e w' ⟨rfl, x1, rfl⟩)
  go_ret
  exact ⟨_, rfl, (by repeat (first | assumption | (refine Blk.at_ _ _ ?_; simp; done) | refine Blk.alloc ?_ _ | refine Blk.drew ?_ | refine Blk.ext ?_ _ | exact Blk.set (by assumption) _ _ | (refine Blk.other ?_ ?_ _; rotate_left; (simp <;> omega)))), (by repeat (first | assumption | (refine Blk.at_ _ _ ?_; simp; done) | refine Blk.alloc ?_ _ | refine Blk.drew ?_ | refine Blk.ext ?_ _ | exact Blk.set (by assumption) _ _ | (refine Blk.other ?_ ?_ _; rotate_left; (simp <;> omega)))), Grew.of (by repeat (first | assumption | exact gr_refl _ | refine gr_alloc ?_ _ | refine gr_drew ?_ | refine gr_drewN ?_ _ | refine gr_ext ?_ _ | (refine gr_set ?_ ?_ _; rotate_left; (simp <;> omega))))⟩
end Go.Proofs.Ytneegcnidoopmaa
