/- Contracts of hue.each with fix.Add, Sub, Mul; hue.Add, Sub, Mul. No conditions. -/
import Derived.Test.YtneegcnidoopmaaDoorFy
namespace Go.Proofs.YtneegcnidoopmaaDoor
open Go.RowKit

set_option maxHeartbeats 1000000 in
theorem each_add (a0 a1 a2 b0 b1 b2 : Int) (w : World) : Calls Tryd.prog 48 #[.agg #[.int .i64 a0, .int .i64 a1, .int .i64 a2], .agg #[.int .i64 b0, .int .i64 b1, .int .i64 b2], .func (.func 31) #[] #[]] w fun e w' =>
    e = .returned (.agg #[.int .i64 (addF a0 b0), .int .i64 (addF a1 b1), .int .i64 (addF a2 b2)]) ∧ Grew w w' := by
  go_enter Tryd.func48, Tryd.ntmps48
  go_wp2
  refine wp_region_ext_tail 19 (by kernel_rfl) (by kernel_rfl) ?_
  simp only [List.take_succ_cons, List.take_zero, List.drop_succ_cons, List.drop_zero]
  repeat (go_big_quiet_step ((first | (go_at_call 31; exact Calls.ext_same _ (fadd_any _ _ _)))))
  refine wpQuiet_nil ?_
  rintro _ ⟨x1, rfl⟩
  go_wp2
  exact bodyPost_ret (v := .agg #[.int .i64 (addF a0 b0), .int .i64 (addF a1 b1), .int .i64 (addF a2 b2)]) (by simp [results, Tryd.results48, go_sem]) rfl ⟨rfl, Grew.of (by repeat (first | assumption | exact gr_refl _ | refine gr_alloc ?_ _ | refine gr_drew ?_ | refine gr_drewN ?_ _ | refine gr_ext ?_ _ | (refine gr_set ?_ ?_ _; rotate_left; (simp <;> omega))))⟩
theorem hadd_any (a0 a1 a2 b0 b1 b2 : Int) (w : World) : Calls Tryd.prog 29 #[.agg #[.int .i64 a0, .int .i64 a1, .int .i64 a2], .agg #[.int .i64 b0, .int .i64 b1, .int .i64 b2]] w fun e w' =>
    e = .returned (.agg #[.int .i64 (addF a0 b0), .int .i64 (addF a1 b1), .int .i64 (addF a2 b2)]) ∧ Grew w w' := by
  go_enter Tryd.func29, Tryd.ntmps29
  go_wp2_with (go_at_call 48; refine (each_add _ _ _ _ _ _ _).mono ?_; rintro e w' ⟨rfl, x1, rfl⟩)
  exact bodyPost_ret (v := .agg #[.int .i64 (addF a0 b0), .int .i64 (addF a1 b1), .int .i64 (addF a2 b2)]) (by simp [results, Tryd.results29, go_sem]) rfl ⟨rfl, Grew.of (by repeat (first | assumption | exact gr_refl _ | refine gr_alloc ?_ _ | refine gr_drew ?_ | refine gr_drewN ?_ _ | refine gr_ext ?_ _ | (refine gr_set ?_ ?_ _; rotate_left; (simp <;> omega))))⟩

set_option maxHeartbeats 1000000 in
theorem each_sub (a0 a1 a2 b0 b1 b2 : Int) (w : World) : Calls Tryd.prog 48 #[.agg #[.int .i64 a0, .int .i64 a1, .int .i64 a2], .agg #[.int .i64 b0, .int .i64 b1, .int .i64 b2], .func (.func 63) #[] #[]] w fun e w' =>
    e = .returned (.agg #[.int .i64 (subF a0 b0), .int .i64 (subF a1 b1), .int .i64 (subF a2 b2)]) ∧ Grew w w' := by
  go_enter Tryd.func48, Tryd.ntmps48
  go_wp2
  refine wp_region_ext_tail 19 (by kernel_rfl) (by kernel_rfl) ?_
  simp only [List.take_succ_cons, List.take_zero, List.drop_succ_cons, List.drop_zero]
  repeat (go_big_quiet_step ((first | (go_at_call 63; exact Calls.ext_same _ (fsub_any _ _ _)))))
  refine wpQuiet_nil ?_
  rintro _ ⟨x1, rfl⟩
  go_wp2
  exact bodyPost_ret (v := .agg #[.int .i64 (subF a0 b0), .int .i64 (subF a1 b1), .int .i64 (subF a2 b2)]) (by simp [results, Tryd.results48, go_sem]) rfl ⟨rfl, Grew.of (by repeat (first | assumption | exact gr_refl _ | refine gr_alloc ?_ _ | refine gr_drew ?_ | refine gr_drewN ?_ _ | refine gr_ext ?_ _ | (refine gr_set ?_ ?_ _; rotate_left; (simp <;> omega))))⟩
theorem hsub_any (a0 a1 a2 b0 b1 b2 : Int) (w : World) : Calls Tryd.prog 66 #[.agg #[.int .i64 a0, .int .i64 a1, .int .i64 a2], .agg #[.int .i64 b0, .int .i64 b1, .int .i64 b2]] w fun e w' =>
    e = .returned (.agg #[.int .i64 (subF a0 b0), .int .i64 (subF a1 b1), .int .i64 (subF a2 b2)]) ∧ Grew w w' := by
  go_enter Tryd.func66, Tryd.ntmps66
  go_wp2_with (go_at_call 48; refine (each_sub _ _ _ _ _ _ _).mono ?_; rintro e w' ⟨rfl, x1, rfl⟩)
  exact bodyPost_ret (v := .agg #[.int .i64 (subF a0 b0), .int .i64 (subF a1 b1), .int .i64 (subF a2 b2)]) (by simp [results, Tryd.results66, go_sem]) rfl ⟨rfl, Grew.of (by repeat (first | assumption | exact gr_refl _ | refine gr_alloc ?_ _ | refine gr_drew ?_ | refine gr_drewN ?_ _ | refine gr_ext ?_ _ | (refine gr_set ?_ ?_ _; rotate_left; (simp <;> omega))))⟩

set_option maxHeartbeats 1000000 in
theorem each_mul (a0 a1 a2 b0 b1 b2 : Int) (w : World) : Calls Tryd.prog 48 #[.agg #[.int .i64 a0, .int .i64 a1, .int .i64 a2], .agg #[.int .i64 b0, .int .i64 b1, .int .i64 b2], .func (.func 44) #[] #[]] w fun e w' =>
    e = .returned (.agg #[.int .i64 (mulF a0 b0), .int .i64 (mulF a1 b1), .int .i64 (mulF a2 b2)]) ∧ Grew w w' := by
  go_enter Tryd.func48, Tryd.ntmps48
  go_wp2
  refine wp_region_ext_tail 19 (by kernel_rfl) (by kernel_rfl) ?_
  simp only [List.take_succ_cons, List.take_zero, List.drop_succ_cons, List.drop_zero]
  repeat (go_big_quiet_step ((first | (go_at_call 44; exact Calls.ext_same _ (fmul_any _ _ _)))))
  refine wpQuiet_nil ?_
  rintro _ ⟨x1, rfl⟩
  go_wp2
  exact bodyPost_ret (v := .agg #[.int .i64 (mulF a0 b0), .int .i64 (mulF a1 b1), .int .i64 (mulF a2 b2)]) (by simp [results, Tryd.results48, go_sem]) rfl ⟨rfl, Grew.of (by repeat (first | assumption | exact gr_refl _ | refine gr_alloc ?_ _ | refine gr_drew ?_ | refine gr_drewN ?_ _ | refine gr_ext ?_ _ | (refine gr_set ?_ ?_ _; rotate_left; (simp <;> omega))))⟩
theorem hmul_any (a0 a1 a2 b0 b1 b2 : Int) (w : World) : Calls Tryd.prog 49 #[.agg #[.int .i64 a0, .int .i64 a1, .int .i64 a2], .agg #[.int .i64 b0, .int .i64 b1, .int .i64 b2]] w fun e w' =>
    e = .returned (.agg #[.int .i64 (mulF a0 b0), .int .i64 (mulF a1 b1), .int .i64 (mulF a2 b2)]) ∧ Grew w w' := by
  go_enter Tryd.func49, Tryd.ntmps49
  go_wp2_with (go_at_call 48; refine (each_mul _ _ _ _ _ _ _).mono ?_; rintro e w' ⟨rfl, x1, rfl⟩)
  exact bodyPost_ret (v := .agg #[.int .i64 (mulF a0 b0), .int .i64 (mulF a1 b1), .int .i64 (mulF a2 b2)]) (by simp [results, Tryd.results49, go_sem]) rfl ⟨rfl, Grew.of (by repeat (first | assumption | exact gr_refl _ | refine gr_alloc ?_ _ | refine gr_drew ?_ | refine gr_drewN ?_ _ | refine gr_ext ?_ _ | (refine gr_set ?_ ?_ _; rotate_left; (simp <;> omega))))⟩

end Go.Proofs.YtneegcnidoopmaaDoor
