/- Contracts of fix.Lerp, ref01.Lerp. No conditions. -/
import Derived.Test.YtneegcnidoopmaaFy
namespace Go.Proofs.Ytneegcnidoopmaa
open Go.RowKit

theorem lerp_bd (a b t : Int) : -1125899906842624 ≤ (held b - held a) * unitF t ∧ (held b - held a) * unitF t ≤ 1125899906842624 := by
  have ha := held_bd a
  have hb := held_bd b
  have ht := unitF_bd t
  have := abs_mul_le (a := held b - held a) (b := unitF t) (A := 4294967296) (B := 65536) (by omega) (by omega) (by omega) (by omega)
  omega
theorem lerp_any (a b t : Int) (w : World) : Calls Try.prog 150 #[.int .i64 a, .int .i64 b, .int .i64 t] w fun e w' => e = .returned (.int .i64 (lerpF a b t)) ∧ w = w' := by
  have hm := lerp_bd a b t
  have ha := held_bd a
  have hb := held_bd b
  have h1 := hm.1
  have h2 := hm.2
  clear hm
  go_enter Try.func150, Try.ntmps150
  go_wp2_with (first | (go_at_call 103; refine (in_any _ _).mono ?_; rintro e w' ⟨rfl, rfl⟩) | (go_at_call 102; refine (unit_any _ _).mono ?_; rintro e w' ⟨rfl, rfl⟩) | (go_at_call 56; refine (clamp_any _ _).mono ?_; rintro e w' ⟨rfl, rfl⟩))
  go_ret
  exact ⟨rfl, rfl⟩
theorem rlerp_any (a b t : Int) (w : World) : Calls Try.prog 180 #[.int .i64 a, .int .i64 b, .int .i64 t] w fun e w' => e = .returned (.int .i64 (lerpF a b t)) ∧ w = w' := by
  have hm := lerp_bd a b t
  have ha := held_bd a
  have hb := held_bd b
  have h1 := hm.1
  have h2 := hm.2
  clear hm
  go_enter Try.func180, Try.ntmps180
  go_wp2_with (first | (go_at_call 59; refine (rdown_big _ _ (by omega) (by omega)).mono ?_; rintro e w' ⟨rfl, rfl⟩) | (go_at_call 105; refine (runit_any _ _).mono ?_; rintro e w' ⟨rfl, rfl⟩) | (go_at_call 58; refine (rheld_any _ _).mono ?_; rintro e w' ⟨rfl, rfl⟩))
  go_ret
  exact ⟨rfl, rfl⟩
end Go.Proofs.Ytneegcnidoopmaa
