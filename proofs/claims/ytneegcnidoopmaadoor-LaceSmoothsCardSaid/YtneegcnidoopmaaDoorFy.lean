/- Contracts of fix.Add/Sub/Mul and ref01.Add/Sub/Mul. No conditions. -/
import Derived.Test.YtneegcnidoopmaaDoorFx
namespace Go.Proofs.YtneegcnidoopmaaDoor
open Go.RowKit

theorem radd_any (a b : Int) (w : World) : Calls Tryd.prog 40 #[.int .i64 a, .int .i64 b] w fun e w' => e = .returned (.int .i64 (addF a b)) ∧ w = w' := by
  have ha := held_bd a
  have hb := held_bd b
  go_enter Tryd.func40, Tryd.ntmps40
  go_wp2_with (go_at_call 53; refine (rheld_any _ _).mono ?_; rintro e w' ⟨rfl, rfl⟩)
  go_ret
  exact ⟨rfl, rfl⟩
theorem rsub_any (a b : Int) (w : World) : Calls Tryd.prog 56 #[.int .i64 a, .int .i64 b] w fun e w' => e = .returned (.int .i64 (subF a b)) ∧ w = w' := by
  have ha := held_bd a
  have hb := held_bd b
  go_enter Tryd.func56, Tryd.ntmps56
  go_wp2_with (go_at_call 53; refine (rheld_any _ _).mono ?_; rintro e w' ⟨rfl, rfl⟩)
  go_ret
  exact ⟨rfl, rfl⟩
theorem mul_bd (a b : Int) : -4611686018427387904 ≤ held a * held b ∧ held a * held b ≤ 4611686018427387904 := by
  have ha := held_bd a
  have hb := held_bd b
  have := abs_mul_le (a := held a) (b := held b) (A := 2147483648) (B := 2147483648) (by omega) (by omega) (by omega) (by omega)
  omega

/-- ref01.Down by 65536, of a wide number. -/
theorem rdown_big (n : Int) (w : World) (h1 : -4611686018427387904 ≤ n) (h2 : n ≤ 4611686018427387904) :
    Calls Tryd.prog 54 #[.int .i64 n, .int .i64 65536] w fun e w' => e = .returned (.int .i64 (n / 65536)) ∧ w = w' := by
  have hd : (0 : Int) < 65536 := by omega
  have m1 := Int.tmod_eq_emod (a := n) (b := 65536)
  have m2 := Int.emod_nonneg n (show (65536 : Int) ≠ 0 by omega)
  have m3 := Int.emod_lt_of_pos n hd
  have m4 := Int.mul_ediv_add_emod n 65536
  have m6 : (65536 : Int) ∣ n ↔ n % 65536 = 0 := Int.dvd_iff_emod_eq_zero
  have key : ∀ r, r = n % 65536 → (n - r).tdiv 65536 = n / 65536 := by
    intro r hr
    subst hr
    have e : n - n % 65536 = n / 65536 * 65536 := by omega
    rw [e, Int.mul_tdiv_cancel _ (by omega)]
  by_cases h : n.tmod 65536 < 0
  · have e1 : n.tmod 65536 + 65536 = n % 65536 := by
      by_cases c : 0 ≤ n ∨ (65536 : Int) ∣ n
      · rw [if_pos c] at m1; omega
      · rw [if_neg c] at m1; omega
    have e2 := key _ e1
    have b1 : -65536 ≤ n.tmod 65536 := by omega
    have K := Lib.hid e2
    clear m1 m2 m3 m4 m6 key e2 e1
    go_enter Tryd.func54, Tryd.ntmps54
    go_wp2
    go_ret
    exact ⟨by rw [← K.out]; rfl, rfl⟩
  · have e1 : n.tmod 65536 = n % 65536 := by
      by_cases c : 0 ≤ n ∨ (65536 : Int) ∣ n
      · rw [if_pos c] at m1; omega
      · rw [if_neg c] at m1; omega
    have e2 := key _ e1
    have b1 : n.tmod 65536 < 65536 := by omega
    have K := Lib.hid e2
    clear m1 m2 m3 m4 m6 key e2 e1
    go_enter Tryd.func54, Tryd.ntmps54
    go_wp2
    go_ret
    exact ⟨by rw [← K.out]; rfl, rfl⟩

theorem rmul_any (a b : Int) (w : World) : Calls Tryd.prog 35 #[.int .i64 a, .int .i64 b] w fun e w' => e = .returned (.int .i64 (mulF a b)) ∧ w = w' := by
  have hm := mul_bd a b
  have h1 := hm.1
  have h2 := hm.2
  clear hm
  go_enter Tryd.func35, Tryd.ntmps35
  go_wp2_with (first | (go_at_call 54; refine (rdown_big _ _ (by omega) (by omega)).mono ?_; rintro e w' ⟨rfl, rfl⟩) | (go_at_call 53; refine (rheld_any _ _).mono ?_; rintro e w' ⟨rfl, rfl⟩))
  go_ret
  exact ⟨rfl, rfl⟩
theorem fadd_any (a b : Int) (w : World) : Calls Tryd.prog 31 #[.int .i64 a, .int .i64 b] w fun e w' => e = .returned (.int .i64 (addF a b)) ∧ w = w' := by
  have ha := held_bd a
  have hb := held_bd b
  go_enter Tryd.func31, Tryd.ntmps31
  go_wp2_with (first | (go_at_call 51; refine (in_any _ _).mono ?_; rintro e w' ⟨rfl, rfl⟩) | (go_at_call 50; refine (clamp_any _ _).mono ?_; rintro e w' ⟨rfl, rfl⟩))
  go_ret
  exact ⟨rfl, rfl⟩
theorem fsub_any (a b : Int) (w : World) : Calls Tryd.prog 63 #[.int .i64 a, .int .i64 b] w fun e w' => e = .returned (.int .i64 (subF a b)) ∧ w = w' := by
  have ha := held_bd a
  have hb := held_bd b
  go_enter Tryd.func63, Tryd.ntmps63
  go_wp2_with (first | (go_at_call 51; refine (in_any _ _).mono ?_; rintro e w' ⟨rfl, rfl⟩) | (go_at_call 50; refine (clamp_any _ _).mono ?_; rintro e w' ⟨rfl, rfl⟩))
  go_ret
  exact ⟨rfl, rfl⟩
theorem fmul_any (a b : Int) (w : World) : Calls Tryd.prog 44 #[.int .i64 a, .int .i64 b] w fun e w' => e = .returned (.int .i64 (mulF a b)) ∧ w = w' := by
  have hm := mul_bd a b
  have h1 := hm.1
  have h2 := hm.2
  clear hm
  go_enter Tryd.func44, Tryd.ntmps44
  go_wp2_with (first | (go_at_call 51; refine (in_any _ _).mono ?_; rintro e w' ⟨rfl, rfl⟩) | (go_at_call 50; refine (clamp_any _ _).mono ?_; rintro e w' ⟨rfl, rfl⟩))
  go_ret
  exact ⟨rfl, rfl⟩
end Go.Proofs.YtneegcnidoopmaaDoor
