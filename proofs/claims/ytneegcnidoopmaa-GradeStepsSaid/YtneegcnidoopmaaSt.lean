/- Contracts of the closures that grade's steps are: Expose, Tint, Fade. Conditions: what their captured cells hold. -/
import Derived.Test.YtneegcnidoopmaaHn
namespace Go.Proofs.Ytneegcnidoopmaa
open Go.RowKit

set_option maxHeartbeats 1000000 in
theorem expose1_any (h0 h1 h2 b : Int) (p : Nat) (w : World) (hp : w.cell? ⟨p, 0, none⟩ = some (.int .i64 b)) :
    Calls Try.prog 107 #[.agg #[.int .i64 h0, .int .i64 h1, .int .i64 h2], .pointer (some ⟨p, 0, none⟩)] w fun e w' => e = .returned (.agg #[.int .i64 (mulF h0 b), .int .i64 (mulF h1 b), .int .i64 (mulF h2 b)]) ∧ Grew w w' := by
  have lp := World.block_lt_of_cell? _ _ hp
  go_enter Try.func107, Try.ntmps107
  go_wp2_with (go_at_call 108; refine (scale_any _ _ _ _ _).mono ?_; rintro e w' ⟨rfl, x1, rfl⟩)
  exact bodyPost_ret (v := .agg #[.int .i64 (mulF h0 b), .int .i64 (mulF h1 b), .int .i64 (mulF h2 b)]) (by simp [results, Try.results107, go_sem]) rfl ⟨rfl, Grew.of (by repeat (first | assumption | exact gr_refl _ | refine gr_alloc ?_ _ | refine gr_drew ?_ | refine gr_drewN ?_ _ | refine gr_ext ?_ _ | (refine gr_set ?_ ?_ _; rotate_left; (simp <;> omega))))⟩
set_option maxHeartbeats 1000000 in
theorem tint1_any (h0 h1 h2 b0 b1 b2 : Int) (p : Nat) (w : World) (hp0 : w.cell? ⟨p, 0, none⟩ = some (.int .i64 b0)) (hp1 : w.cell? ⟨p, 1, none⟩ = some (.int .i64 b1)) (hp2 : w.cell? ⟨p, 2, none⟩ = some (.int .i64 b2)) :
    Calls Try.prog 109 #[.agg #[.int .i64 h0, .int .i64 h1, .int .i64 h2], .pointer (some ⟨p, 0, none⟩)] w fun e w' => e = .returned (.agg #[.int .i64 (mulF h0 b0), .int .i64 (mulF h1 b1), .int .i64 (mulF h2 b2)]) ∧ Grew w w' := by
  have lp := World.block_lt_of_cell? _ _ hp0
  go_enter Try.func109, Try.ntmps109
  go_wp2_with (go_at_call 110; refine (hmul_any _ _ _ _ _ _ _).mono ?_; rintro e w' ⟨rfl, x1, rfl⟩)
  exact bodyPost_ret (v := .agg #[.int .i64 (mulF h0 b0), .int .i64 (mulF h1 b1), .int .i64 (mulF h2 b2)]) (by simp [results, Try.results109, go_sem]) rfl ⟨rfl, Grew.of (by repeat (first | assumption | exact gr_refl _ | refine gr_alloc ?_ _ | refine gr_drew ?_ | refine gr_drewN ?_ _ | refine gr_ext ?_ _ | (refine gr_set ?_ ?_ _; rotate_left; (simp <;> omega))))⟩
end Go.Proofs.Ytneegcnidoopmaa
