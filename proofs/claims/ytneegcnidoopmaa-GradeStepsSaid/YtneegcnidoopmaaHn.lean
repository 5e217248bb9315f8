/- Contracts of ref05.Luma; hue.each with hue.Mix's closure; hue.Mix. No conditions. -/
import Derived.Test.YtneegcnidoopmaaHm
namespace Go.Proofs.Ytneegcnidoopmaa
open Go.RowKit

theorem rluma_any (a0 a1 a2 : Int) (w : World) : Calls Try.prog 153 #[.agg #[.int .i64 a0, .int .i64 a1, .int .i64 a2]] w fun e w' => e = .returned (.int .i64 (lumaF a0 a1 a2)) ∧ Grew w w' := by
  have h0 := held_bd a0
  have h1 := held_bd a1
  have h2 := held_bd a2
  go_enter Try.func153, Try.ntmps153
  go_wp2
  refine wp_region_ext (by kernel_rfl) (by kernel_rfl) ?_
  repeat (go_big_quiet_step ((first | (go_at_call 58; exact Calls.ext_same _ (rheld_any _ _)) | (go_at_call 59; exact Calls.ext_same _ (rdown_any _ _ _ (by omega) (by omega) (by omega) (by omega))))))
  refine wpQuiet_nil ?_
  rintro _ ⟨x1, rfl⟩
  go_wp2
  go_ret
  exact ⟨rfl, Grew.of (by repeat (first | assumption | exact gr_refl _ | refine gr_alloc ?_ _ | refine gr_drew ?_ | refine gr_drewN ?_ _ | refine gr_ext ?_ _ | (refine gr_set ?_ ?_ _; rotate_left; (simp <;> omega))))⟩
theorem mix1_any (a b t : Int) (p : Nat) (w : World) (hp : w.cell? ⟨p, 0, none⟩ = some (.int .i64 t)) : Calls Try.prog 149 #[.int .i64 a, .int .i64 b, .pointer (some ⟨p, 0, none⟩)] w fun e w' => e = .returned (.int .i64 (lerpF a b t)) ∧ w = w' := by
  go_enter Try.func149, Try.ntmps149
  go_wp2_with (go_at_call 150; refine (lerp_any _ _ _ _).mono ?_; rintro e w' ⟨rfl, rfl⟩)
  go_ret
  exact ⟨rfl, rfl⟩
set_option maxHeartbeats 1000000 in
theorem each_mix (a0 a1 a2 b0 b1 b2 t : Int) (p : Nat) (w : World) (hp : w.cell? ⟨p, 0, none⟩ = some (.int .i64 t)) : Calls Try.prog 147 #[.agg #[.int .i64 a0, .int .i64 a1, .int .i64 a2], .agg #[.int .i64 b0, .int .i64 b1, .int .i64 b2], .func (.func 149) #[] #[.pointer (some ⟨p, 0, none⟩)]] w fun e w' =>
    e = .returned (.agg #[.int .i64 (lerpF a0 b0 t), .int .i64 (lerpF a1 b1 t), .int .i64 (lerpF a2 b2 t)]) ∧ Grew w w' := by
  have HP := Lib.hid hp
  clear hp
  go_enter Try.func147, Try.ntmps147
  go_wp2
  refine wp_region_ext_tail 19 (by kernel_rfl) (by kernel_rfl) ?_
  simp only [List.take_succ_cons, List.take_zero, List.drop_succ_cons, List.drop_zero]
  repeat (go_big_quiet_step ((first | (go_at_call 149; exact Calls.ext_same _ (mix1_any _ _ _ _ _ (cell_later (w := w) ((by repeat (first | assumption | exact gr_refl _ | refine gr_alloc ?_ _ | refine gr_drew ?_ | refine gr_drewN ?_ _ | refine gr_ext ?_ _ | (refine gr_set ?_ ?_ _; rotate_left; (simp <;> omega))))) HP.out))))))
  refine wpQuiet_nil ?_
  rintro _ ⟨x1, rfl⟩
  go_wp2
  exact bodyPost_ret (v := .agg #[.int .i64 (lerpF a0 b0 t), .int .i64 (lerpF a1 b1 t), .int .i64 (lerpF a2 b2 t)]) (by simp [results, Try.results147, go_sem]) rfl ⟨rfl, Grew.of (by repeat (first | assumption | exact gr_refl _ | refine gr_alloc ?_ _ | refine gr_drew ?_ | refine gr_drewN ?_ _ | refine gr_ext ?_ _ | (refine gr_set ?_ ?_ _; rotate_left; (simp <;> omega))))⟩
set_option maxHeartbeats 1000000 in
theorem hmix_any (a0 a1 a2 b0 b1 b2 t : Int) (w : World) : Calls Try.prog 112 #[.agg #[.int .i64 a0, .int .i64 a1, .int .i64 a2], .agg #[.int .i64 b0, .int .i64 b1, .int .i64 b2], .int .i64 t] w fun e w' =>
    e = .returned (.agg #[.int .i64 (lerpF a0 b0 t), .int .i64 (lerpF a1 b1 t), .int .i64 (lerpF a2 b2 t)]) ∧ Grew w w' := by
  go_enter Try.func112, Try.ntmps112
  go_wp2_with fail
  refine (each_mix _ _ _ _ _ _ t (w.heap.size + 1 + 1) _ (by go_simp)).mono ?_
  rintro e w' ⟨rfl, x1, rfl⟩
  go_wp2
  exact bodyPost_ret (v := .agg #[.int .i64 (lerpF a0 b0 t), .int .i64 (lerpF a1 b1 t), .int .i64 (lerpF a2 b2 t)]) (by simp [results, Try.results112, go_sem]) rfl ⟨rfl, Grew.of (by repeat (first | assumption | exact gr_refl _ | refine gr_alloc ?_ _ | refine gr_drew ?_ | refine gr_drewN ?_ _ | refine gr_ext ?_ _ | (refine gr_set ?_ ?_ _; rotate_left; (simp <;> omega))))⟩
end Go.Proofs.Ytneegcnidoopmaa
