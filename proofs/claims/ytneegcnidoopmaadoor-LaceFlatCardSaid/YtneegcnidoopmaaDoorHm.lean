/- Contracts of Scale, Gray, Luma, Mix of hue and of ref05. No conditions. -/
import Derived.Test.YtneegcnidoopmaaDoorHu
import Derived.Test.YtneegcnidoopmaaDoorRh
import Derived.Test.YtneegcnidoopmaaDoorLp
namespace Go.Proofs.YtneegcnidoopmaaDoor
open Go.RowKit

def lumaF (a b c : Int) : Int := held ((2 * held a + 5 * held b + held c) / 8)
theorem gray_any (n : Int) (w : World) : Calls Tryd.prog 19 #[.int .i64 n] w fun e w' => e = .returned (.agg #[.int .i64 n, .int .i64 n, .int .i64 n]) ∧ Grew w w' := by
  go_enter Tryd.func19, Tryd.ntmps19
  go_wp2
  exact bodyPost_ret (v := .agg #[.int .i64 n, .int .i64 n, .int .i64 n]) (by simp [results, Tryd.results19, go_sem]) rfl ⟨rfl, Grew.of (by repeat (first | assumption | exact gr_refl _ | refine gr_alloc ?_ _ | refine gr_drew ?_ | refine gr_drewN ?_ _ | refine gr_ext ?_ _ | (refine gr_set ?_ ?_ _; rotate_left; (simp <;> omega))))⟩
theorem rscale_any (a0 a1 a2 s : Int) (w : World) : Calls Tryd.prog 43 #[.agg #[.int .i64 a0, .int .i64 a1, .int .i64 a2], .int .i64 s] w fun e w' => e = .returned (.agg #[.int .i64 (mulF a0 s), .int .i64 (mulF a1 s), .int .i64 (mulF a2 s)]) ∧ Grew w w' := by
  go_enter Tryd.func43, Tryd.ntmps43
  go_wp2_with (go_at_call 59; refine (rhmul_any _ _ _ _ _ _ _).mono ?_; rintro e w' ⟨rfl, x1, rfl⟩)
  exact bodyPost_ret (v := .agg #[.int .i64 (mulF a0 s), .int .i64 (mulF a1 s), .int .i64 (mulF a2 s)]) (by simp [results, Tryd.results43, go_sem]) rfl ⟨rfl, Grew.of (by repeat (first | assumption | exact gr_refl _ | refine gr_alloc ?_ _ | refine gr_drew ?_ | refine gr_drewN ?_ _ | refine gr_ext ?_ _ | (refine gr_set ?_ ?_ _; rotate_left; (simp <;> omega))))⟩
theorem scale_any (a0 a1 a2 s : Int) (w : World) : Calls Tryd.prog 30 #[.agg #[.int .i64 a0, .int .i64 a1, .int .i64 a2], .int .i64 s] w fun e w' => e = .returned (.agg #[.int .i64 (mulF a0 s), .int .i64 (mulF a1 s), .int .i64 (mulF a2 s)]) ∧ Grew w w' := by
  go_enter Tryd.func30, Tryd.ntmps30
  go_wp2
  refine wp_region_ext_tail 4 (by kernel_rfl) (by kernel_rfl) ?_
  simp only [List.take_succ_cons, List.take_zero, List.drop_succ_cons, List.drop_zero]
  repeat (go_big_quiet_step ((first | (go_at_call 19; exact Calls.grew _ (gray_any _ _)) | (go_at_call 49; exact Calls.grew _ (hmul_any _ _ _ _ _ _ _)))))
  refine wpQuiet_nil ?_
  rintro _ ⟨x1, rfl⟩
  go_wp2
  exact bodyPost_ret (v := .agg #[.int .i64 (mulF a0 s), .int .i64 (mulF a1 s), .int .i64 (mulF a2 s)]) (by simp [results, Tryd.results30, go_sem]) rfl ⟨rfl, Grew.of (by repeat (first | assumption | exact gr_refl _ | refine gr_alloc ?_ _ | refine gr_drew ?_ | refine gr_drewN ?_ _ | refine gr_ext ?_ _ | (refine gr_set ?_ ?_ _; rotate_left; (simp <;> omega))))⟩
end Go.Proofs.YtneegcnidoopmaaDoor
