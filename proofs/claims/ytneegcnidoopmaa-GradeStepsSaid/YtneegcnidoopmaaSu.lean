/- Contract of the closure that grade.Fade returns. Conditions: what its captured cell holds. -/
import Derived.Test.YtneegcnidoopmaaSt
namespace Go.Proofs.Ytneegcnidoopmaa
open Go.RowKit

set_option maxHeartbeats 1000000 in
theorem fade1_any (h0 h1 h2 b : Int) (p : Nat) (w : World) (hp : w.cell? ⟨p, 0, none⟩ = some (.int .i64 b)) :
    Calls Try.prog 111 #[.agg #[.int .i64 h0, .int .i64 h1, .int .i64 h2], .pointer (some ⟨p, 0, none⟩)] w fun e w' => e = .returned (.agg #[.int .i64 (lerpF h0 (lumaF h0 h1 h2) b), .int .i64 (lerpF h1 (lumaF h0 h1 h2) b), .int .i64 (lerpF h2 (lumaF h0 h1 h2) b)]) ∧ Grew w w' := by
  have lp := World.block_lt_of_cell? _ _ hp
  simp only at lp
  have l1 : p < w.heap.size + 1 := by omega
  have l2 : p < w.heap.size + 1 + 1 := by omega
  go_enter Try.func111, Try.ntmps111
  go_wp2
  refine wp_region_ext_tail 6 (by kernel_rfl) (by kernel_rfl) ?_
  simp only [List.take_succ_cons, List.take_zero, List.drop_succ_cons, List.drop_zero]
  repeat (go_big_quiet_step ((first | (go_at_call 114; exact Calls.grew _ (luma_any _ _ _ _)) | (go_at_call 113; exact Calls.grew _ (gray_any _ _)) | (go_at_call 112; exact Calls.grew _ (hmix_any _ _ _ _ _ _ _ _)))))
  refine wpQuiet_nil ?_
  rintro _ ⟨x1, rfl⟩
  go_wp2
  exact bodyPost_ret (v := .agg #[.int .i64 (lerpF h0 (lumaF h0 h1 h2) b), .int .i64 (lerpF h1 (lumaF h0 h1 h2) b), .int .i64 (lerpF h2 (lumaF h0 h1 h2) b)]) (by simp [results, Try.results111, go_sem]) rfl ⟨rfl, Grew.of (by repeat (first | assumption | exact gr_refl _ | refine gr_alloc ?_ _ | refine gr_drew ?_ | refine gr_drewN ?_ _ | refine gr_ext ?_ _ | (refine gr_set ?_ ?_ _; rotate_left; (simp <;> omega))))⟩
end Go.Proofs.Ytneegcnidoopmaa
