/- Contracts of the scalar functions of packages fix and grade and of their references: each returns what the plain function says and leaves all that was there as it was. No conditions but the ranges named. -/
import Derived.Test.YtneegcnidoopmaaDoorProg
import Derived.Test.YtneegcnidoopmaaDoorQt
import Derived.Test.YtneegcnidoopmaaDoorS
namespace Go.Proofs.YtneegcnidoopmaaDoor
open Go.RowKit

theorem clamp_any (n : Int) (w : World) : Calls Tryd.prog 50 #[.int .i64 n] w fun e w' => e = .returned (.int .i64 (held n)) ∧ w = w' := by
  by_cases h1 : 2147483648 < n
  · rw [held_hi h1]
    go_enter Tryd.func50, Tryd.ntmps50
    go_wp2
    go_ret
    exact ⟨rfl, rfl⟩
  · by_cases h2 : n < -2147483648
    · rw [held_lo h2]
      go_enter Tryd.func50, Tryd.ntmps50
      go_wp2
      go_ret
      exact ⟨rfl, rfl⟩
    · rw [held_in (by omega) (by omega)]
      go_enter Tryd.func50, Tryd.ntmps50
      go_wp2
      go_ret
      exact ⟨rfl, rfl⟩
theorem rheld_any (n : Int) (w : World) : Calls Tryd.prog 53 #[.int .i64 n] w fun e w' => e = .returned (.int .i64 (held n)) ∧ w = w' := by
  by_cases h1 : 2147483648 < n
  · rw [held_hi h1]
    go_enter Tryd.func53, Tryd.ntmps53
    go_wp2
    go_ret
    exact ⟨rfl, rfl⟩
  · by_cases h2 : n < -2147483648
    · rw [held_lo h2]
      go_enter Tryd.func53, Tryd.ntmps53
      go_wp2
      go_ret
      exact ⟨rfl, rfl⟩
    · rw [held_in (by omega) (by omega)]
      go_enter Tryd.func53, Tryd.ntmps53
      go_wp2
      go_ret
      exact ⟨rfl, rfl⟩
/-- ref01.Down. -/
theorem rdown_any (n d : Int) (w : World) (hd : 0 < d) (hd2 : d ≤ 281474976710656) (h1 : -1125899906842624000 ≤ n) (h2 : n ≤ 1125899906842624000) :
    Calls Tryd.prog 54 #[.int .i64 n, .int .i64 d] w fun e w' => e = .returned (.int .i64 (n / d)) ∧ w = w' := by
  have m1 := Int.tmod_eq_emod (a := n) (b := d)
  have m2 := Int.emod_nonneg n (show d ≠ 0 by omega)
  have m3 := Int.emod_lt_of_pos n hd
  have m4 := Int.mul_ediv_add_emod n d
  have m6 : d ∣ n ↔ n % d = 0 := Int.dvd_iff_emod_eq_zero
  have key : ∀ r, r = n % d → (n - r).tdiv d = n / d := by
    intro r hr
    subst hr
    have e : n - n % d = n / d * d := by rw [Int.mul_comm]; omega
    rw [e, Int.mul_tdiv_cancel _ (by omega)]
  by_cases h : n.tmod d < 0
  · have e1 : n.tmod d + d = n % d := by
      by_cases c : 0 ≤ n ∨ d ∣ n
      · rw [if_pos c] at m1; omega
      · rw [if_neg c] at m1; omega
    have e2 := key _ e1
    have b1 : -281474976710656 ≤ n.tmod d := by omega
    have K := Lib.hid e2
    have K1 := Lib.hid e1
    clear m1 m2 m3 m4 m6 key e2 e1
    go_enter Tryd.func54, Tryd.ntmps54
    go_wp2
    go_ret
    exact ⟨by rw [← K.out]; rfl, rfl⟩
  · have e1 : n.tmod d = n % d := by
      by_cases c : 0 ≤ n ∨ d ∣ n
      · rw [if_pos c] at m1; omega
      · rw [if_neg c] at m1; omega
    have e2 := key _ e1
    have b1 : n.tmod d < 281474976710656 := by omega
    have K := Lib.hid e2
    have K1 := Lib.hid e1
    clear m1 m2 m3 m4 m6 key e2 e1
    go_enter Tryd.func54, Tryd.ntmps54
    go_wp2
    go_ret
    exact ⟨by rw [← K.out]; rfl, rfl⟩
end Go.Proofs.YtneegcnidoopmaaDoor
