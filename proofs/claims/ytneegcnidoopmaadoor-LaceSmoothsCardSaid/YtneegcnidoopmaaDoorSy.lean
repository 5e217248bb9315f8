/- Contracts of law05.To and law05.From. No conditions. -/
import Derived.Test.YtneegcnidoopmaaDoorA
namespace Go.Proofs.YtneegcnidoopmaaDoor
open Go.RowKit

theorem hto_any (a b c : Int) (w : World) : Calls Tryd.prog 17 #[.agg #[.int .i64 a, .int .i64 b, .int .i64 c]] w fun e w' => e = .returned (.agg #[.int .i64 a, .int .i64 b, .int .i64 c]) ∧ Grew w w' := by
  go_enter Tryd.func17, Tryd.ntmps17
  go_wp2
  exact bodyPost_ret (v := .agg #[.int .i64 a, .int .i64 b, .int .i64 c]) (by simp [results, Tryd.results17, go_sem]) rfl ⟨rfl, Grew.of (by repeat (first | assumption | exact gr_refl _ | refine gr_alloc ?_ _ | refine gr_drew ?_ | refine gr_drewN ?_ _ | refine gr_ext ?_ _ | (refine gr_set ?_ ?_ _; rotate_left; (simp <;> omega))))⟩
theorem hfrom_any (a b c : Int) (w : World) : Calls Tryd.prog 18 #[.agg #[.int .i64 a, .int .i64 b, .int .i64 c]] w fun e w' => e = .returned (.agg #[.int .i64 a, .int .i64 b, .int .i64 c]) ∧ Grew w w' := by
  go_enter Tryd.func18, Tryd.ntmps18
  go_wp2
  exact bodyPost_ret (v := .agg #[.int .i64 a, .int .i64 b, .int .i64 c]) (by simp [results, Tryd.results18, go_sem]) rfl ⟨rfl, Grew.of (by repeat (first | assumption | exact gr_refl _ | refine gr_alloc ?_ _ | refine gr_drew ?_ | refine gr_drewN ?_ _ | refine gr_ext ?_ _ | (refine gr_set ?_ ?_ _; rotate_left; (simp <;> omega))))⟩
end Go.Proofs.YtneegcnidoopmaaDoor
