/- Contracts of ref39.Through, Fade, Contrast. Conditions: the pins lie behind the slice. -/
import Derived.Test.YtneegcnidoopmaaHn
import Derived.Test.YtneegcnidoopmaaH
namespace Go.Proofs.Ytneegcnidoopmaa
open Go.RowKit

set_option maxHeartbeats 1000000 in
theorem rthrough_any (A : Option Addr) (n cap : Nat) (X Y : Nat → Int) (h0 h1 h2 : Int) (w : World) (hn : n ≤ 9223372036854775806) (hc : Cells2 w A n X Y) :
    Calls Try.prog 118 #[.slice A n cap, .agg #[.int .i64 h0, .int .i64 h1, .int .i64 h2]] w fun e w' => e = .returned (.agg #[.int .i64 (curveAt X Y n h0), .int .i64 (curveAt X Y n h1), .int .i64 (curveAt X Y n h2)]) ∧ Grew w w' := by
  have HC := Lib.hid hc
  clear hc
  go_enter Try.func118, Try.ntmps118
  go_wp2
  refine wp_region_ext_tail 13 (by kernel_rfl) (by kernel_rfl) ?_
  simp only [List.take_succ_cons, List.take_zero, List.drop_succ_cons, List.drop_zero]
  repeat (go_big_quiet_step ((first | (go_at_call 15; exact Calls.grew _ (rat_any A n cap X Y _ _ hn (HC.out.below ((by repeat (first | assumption | exact gr_refl _ | refine gr_alloc ?_ _ | refine gr_drew ?_ | refine gr_drewN ?_ _ | refine gr_ext ?_ _ | (refine gr_set ?_ ?_ _; rotate_left; (simp <;> omega)))))))))))
  refine wpQuiet_nil ?_
  rintro _ ⟨x1, rfl⟩
  go_wp2
  exact bodyPost_ret (v := .agg #[.int .i64 (curveAt X Y n h0), .int .i64 (curveAt X Y n h1), .int .i64 (curveAt X Y n h2)]) (by simp [results, Try.results118, go_sem]) rfl ⟨rfl, Grew.of (by repeat (first | assumption | exact gr_refl _ | refine gr_alloc ?_ _ | refine gr_drew ?_ | refine gr_drewN ?_ _ | refine gr_ext ?_ _ | (refine gr_set ?_ ?_ _; rotate_left; (simp <;> omega))))⟩
set_option maxHeartbeats 1000000 in
theorem rfade_any (b h0 h1 h2 : Int) (w : World) :
    Calls Try.prog 121 #[.int .i64 b, .agg #[.int .i64 h0, .int .i64 h1, .int .i64 h2]] w fun e w' => e = .returned (.agg #[.int .i64 (lerpF h0 (lumaF h0 h1 h2) b), .int .i64 (lerpF h1 (lumaF h0 h1 h2) b), .int .i64 (lerpF h2 (lumaF h0 h1 h2) b)]) ∧ Grew w w' := by
  go_enter Try.func121, Try.ntmps121
  go_wp2_with (first | (go_at_call 153; refine (rluma_any _ _ _ _).mono ?_; rintro e w' ⟨rfl, x1, rfl⟩) | (go_at_call 154; refine (rhmix_any _ _ _ _ _ _ _ _).mono ?_; rintro e w' ⟨rfl, x2, rfl⟩))
  have l1 : w.heap.size + 1 < x1.val.heap.size := by have := x1.size_val; simp at this; omega
  have l2 : w.heap.size < x1.val.heap.size := by omega
  exact bodyPost_ret (v := .agg #[.int .i64 (lerpF h0 (lumaF h0 h1 h2) b), .int .i64 (lerpF h1 (lumaF h0 h1 h2) b), .int .i64 (lerpF h2 (lumaF h0 h1 h2) b)]) (by simp [results, Try.results121, go_sem, l1, l2]) rfl ⟨rfl, Grew.of (by repeat (first | assumption | exact gr_refl _ | refine gr_alloc ?_ _ | refine gr_drew ?_ | refine gr_drewN ?_ _ | refine gr_ext ?_ _ | (refine gr_set ?_ ?_ _; rotate_left; (simp <;> omega))))⟩
set_option maxHeartbeats 1000000 in
theorem rcontrast_any (m b h0 h1 h2 : Int) (w : World) :
    Calls Try.prog 122 #[.int .i64 m, .int .i64 b, .agg #[.int .i64 h0, .int .i64 h1, .int .i64 h2]] w fun e w' => e = .returned (.agg #[.int .i64 (addF m (mulF (subF h0 m) b)), .int .i64 (addF m (mulF (subF h1 m) b)), .int .i64 (addF m (mulF (subF h2 m) b))]) ∧ Grew w w' := by
  go_enter Try.func122, Try.ntmps122
  go_wp2
  refine wp_region_ext_tail 7 (by kernel_rfl) (by kernel_rfl) ?_
  simp only [List.take_succ_cons, List.take_zero, List.drop_succ_cons, List.drop_zero]
  repeat (go_big_quiet_step ((first | (go_at_call 156; exact Calls.grew _ (rhsub_any _ _ _ _ _ _ _)) | (go_at_call 119; exact Calls.grew _ (rscale_any _ _ _ _ _)) | (go_at_call 155; exact Calls.grew _ (rhadd_any _ _ _ _ _ _ _)))))
  refine wpQuiet_nil ?_
  rintro _ ⟨x1, rfl⟩
  go_wp2
  exact bodyPost_ret (v := .agg #[.int .i64 (addF m (mulF (subF h0 m) b)), .int .i64 (addF m (mulF (subF h1 m) b)), .int .i64 (addF m (mulF (subF h2 m) b))]) (by simp [results, Try.results122, go_sem]) rfl ⟨rfl, Grew.of (by repeat (first | assumption | exact gr_refl _ | refine gr_alloc ?_ _ | refine gr_drew ?_ | refine gr_drewN ?_ _ | refine gr_ext ?_ _ | (refine gr_set ?_ ?_ _; rotate_left; (simp <;> omega))))⟩
end Go.Proofs.Ytneegcnidoopmaa
