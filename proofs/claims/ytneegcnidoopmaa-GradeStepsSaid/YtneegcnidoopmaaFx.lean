/- Contracts of fix.in, floor, Div, Of, Unit, hue.Shade and of their references. No conditions but the ranges named. -/
import Derived.Test.YtneegcnidoopmaaA
namespace Go.Proofs.Ytneegcnidoopmaa
open Go.RowKit

def shadeF (y : Int) : Int := (255 * unitF y + 32768) / 65536
theorem shadeF_bd (y : Int) : 0 ≤ shadeF y ∧ shadeF y ≤ 255 := by have := unitF_bd y; unfold shadeF; omega
theorem unitF_lo {a : Int} (h : a < 0) : unitF a = 0 := if_pos h
theorem unitF_hi {a : Int} (h : 65536 < a) : unitF a = 65536 := by unfold unitF; rw [if_neg (by omega), if_pos h]
theorem unitF_in {a : Int} (h : 0 ≤ a) (h1 : a ≤ 65536) : unitF a = a := by unfold unitF; rw [if_neg (by omega), if_neg (by omega)]

theorem in_any (n : Int) (w : World) : Calls Try.prog 103 #[.int .i64 n] w fun e w' => e = .returned (.int .i64 (held n)) ∧ w = w' := by
  go_enter Try.func103, Try.ntmps103
  go_wp2_with (go_at_call 56; refine (clamp_any _ _).mono ?_; rintro e w' ⟨rfl, rfl⟩)
  go_ret
  exact ⟨rfl, rfl⟩

theorem unit_any (a : Int) (w : World) : Calls Try.prog 102 #[.int .i64 a] w fun e w' => e = .returned (.int .i64 (unitF a)) ∧ w = w' := by
  by_cases h1 : a ≤ 0
  · have e : unitF a = 0 := by unfold unitF; split <;> (try split) <;> omega
    rw [e]
    go_enter Try.func102, Try.ntmps102
    go_wp2
    go_ret
    exact ⟨ret_i (by omega), rfl⟩
  · by_cases h2 : 65536 < a
    · rw [unitF_hi h2]
      go_enter Try.func102, Try.ntmps102
      go_wp2
      go_ret
      exact ⟨ret_i (by omega), rfl⟩
    · rw [unitF_in (by omega) (by omega)]
      go_enter Try.func102, Try.ntmps102
      go_wp2
      go_ret
      exact ⟨ret_i (by omega), rfl⟩
theorem runit_any (a : Int) (w : World) : Calls Try.prog 105 #[.int .i64 a] w fun e w' => e = .returned (.int .i64 (unitF a)) ∧ w = w' := by
  by_cases h1 : a < 0
  · rw [unitF_lo h1]
    go_enter Try.func105, Try.ntmps105
    go_wp2
    go_ret
    exact ⟨rfl, rfl⟩
  · by_cases h2 : 65536 < a
    · rw [unitF_hi h2]
      go_enter Try.func105, Try.ntmps105
      go_wp2
      go_ret
      exact ⟨rfl, rfl⟩
    · rw [unitF_in (by omega) (by omega)]
      go_enter Try.func105, Try.ntmps105
      go_wp2
      go_ret
      exact ⟨rfl, rfl⟩

theorem ret_u8 {a b : Int} (h : a = b) : Ending.returned (Value.int .u8 a) = Ending.returned (Value.int .u8 b) := by rw [h]
theorem shade_any (y : Int) (w : World) : Calls Try.prog 62 #[.int .i64 y] w fun e w' => e = .returned (.int .u8 (shadeF y)) ∧ w = w' := by
  have hu := unitF_bd y
  obtain ⟨u, hx⟩ : ∃ u, unitF y = u := ⟨_, rfl⟩
  have E := Lib.hid (show shadeF y = (255 * u + 32768) / 65536 by unfold shadeF; rw [hx])
  rw [hx] at hu
  have U := Lib.hid hx
  clear hx
  have h1 := hu.1
  have h2 := hu.2
  clear hu
  go_enter Try.func62, Try.ntmps62
  go_wp2_with (go_at_call 102; refine (unit_any _ _).mono ?_; rintro e w' ⟨rfl, rfl⟩; rw [U.out])
  go_ret
  exact ⟨ret_u8 (by rw [E.out] <;> omega), rfl⟩
theorem rshade_any (y : Int) (w : World) : Calls Try.prog 65 #[.int .i64 y] w fun e w' => e = .returned (.int .u8 (shadeF y)) ∧ w = w' := by
  have hu := unitF_bd y
  obtain ⟨u, hx⟩ : ∃ u, unitF y = u := ⟨_, rfl⟩
  have E := Lib.hid (show shadeF y = (255 * u + 32768) / 65536 by unfold shadeF; rw [hx])
  rw [hx] at hu
  have U := Lib.hid hx
  clear hx
  have h1 := hu.1
  have h2 := hu.2
  clear hu
  go_enter Try.func65, Try.ntmps65
  go_wp2_with (go_at_call 105; refine (runit_any _ _).mono ?_; rintro e w' ⟨rfl, rfl⟩; rw [U.out])
  go_ret
  exact ⟨ret_u8 (by rw [E.out] <;> omega), rfl⟩
theorem of_any (n : Int) (w : World) (h0 : 0 ≤ n) (h : n ≤ 255) : Calls Try.prog 64 #[.int .i64 n] w fun e w' => e = .returned (.int .i64 (n * 65536)) ∧ w = w' := by
  have e := held_in (n := n * 65536) (by omega) (by omega)
  have E := Lib.hid e
  clear e
  go_enter Try.func64, Try.ntmps64
  go_wp2_with (go_at_call 56; refine (clamp_any _ _).mono ?_; rintro e w' ⟨rfl, rfl⟩; rw [E.out])
  go_ret
  exact ⟨rfl, rfl⟩
theorem rof_any (n : Int) (w : World) (h0 : 0 ≤ n) (h : n ≤ 255) : Calls Try.prog 67 #[.int .i64 n] w fun e w' => e = .returned (.int .i64 (n * 65536)) ∧ w = w' := by
  go_enter Try.func67, Try.ntmps67
  go_wp2
  go_ret
  exact ⟨rfl, rfl⟩

/-- fix.floor, by a number above 0. -/
theorem floor_any (n d : Int) (w : World) (hd : 0 < d) (hd2 : d ≤ 281474976710656) (h1 : -1125899906842624000 ≤ n) (h2 : n ≤ 1125899906842624000) :
    Calls Try.prog 104 #[.int .i64 n, .int .i64 d] w fun e w' => e = .returned (.int .i64 (n / d)) ∧ w = w' := by
  have hb := tdiv_bd (n := n) (d := d) (B := 1125899906842624000) hd h1 h2 (by omega)
  have hq1 := hb.1
  have hq2 := hb.2
  have ev := tdiv_floor (n := n) hd
  have hs := Int.tmod_nonneg (a := n) d
  have dd : decide (d < 0) = false := decide_eq_false (by omega)
  by_cases c : n.tmod d < 0
  · have hn : n < 0 := by
      by_cases h : 0 ≤ n
      · have := hs h; omega
      · omega
    rw [if_pos c] at ev
    have cc : (n.tmod d != 0) = true := by simp; omega
    have E := Lib.hid ev
    clear ev hs hb
    go_enter Try.func104, Try.ntmps104
    go_wp2
    go_ret
    exact ⟨ret_i E.out, rfl⟩
  · rw [if_neg c] at ev
    by_cases c0 : n.tmod d = 0
    · have E := Lib.hid ev
      clear ev hs hb
      go_enter Try.func104, Try.ntmps104
      go_wp2
      go_ret
      exact ⟨ret_i E.out, rfl⟩
    · have hn : ¬ n < 0 := by
        intro hn
        have := Int.tmod_nonneg (a := -n) d (by omega)
        rw [Int.neg_tmod] at this
        omega
      have cc : (n.tmod d != 0) = true := by simp; omega
      have cm : (n % d != 0) = true := by rw [← Int.tmod_eq_emod_of_nonneg (by omega)]; exact cc
      have E := Lib.hid ev
      clear ev hs hb
      go_enter Try.func104, Try.ntmps104
      go_wp2
      go_ret
      exact ⟨ret_i E.out, rfl⟩

/-- fix.Div, by a number above 0. -/
theorem fdiv_any (a b : Int) (w : World) (hb : 0 < held b) : Calls Try.prog 63 #[.int .i64 a, .int .i64 b] w fun e w' => e = .returned (.int .i64 (held (held a * 65536 / held b))) ∧ w = w' := by
  have ha := held_bd a
  have hbb := held_bd b
  obtain ⟨a', ea⟩ : ∃ a', held a = a' := ⟨_, rfl⟩
  obtain ⟨b', eb⟩ : ∃ b', held b = b' := ⟨_, rfl⟩
  rw [ea, eb]
  rw [eb] at hb hbb
  rw [ea] at ha
  have EA := Lib.hid ea
  have EB := Lib.hid eb
  clear ea eb
  have i1 := ha.1
  have i2 := ha.2
  have i3 := hbb.2
  clear ha hbb
  go_enter Try.func63, Try.ntmps63
  go_wp2_with (first | (go_at_call 103; refine (in_any _ _).mono ?_; rintro e w' ⟨rfl, rfl⟩; first | rw [EA.out] | rw [EB.out]) | (go_at_call 104; refine (floor_any _ _ _ (by omega) (by omega) (by omega) (by omega)).mono ?_; rintro e w' ⟨rfl, rfl⟩) | (go_at_call 56; refine (clamp_any _ _).mono ?_; rintro e w' ⟨rfl, rfl⟩))
  go_ret
  exact ⟨rfl, rfl⟩
theorem rdiv_any (a b : Int) (w : World) (hb : 0 < held b) : Calls Try.prog 66 #[.int .i64 a, .int .i64 b] w fun e w' => e = .returned (.int .i64 (held (held a * 65536 / held b))) ∧ w = w' := by
  have ha := held_bd a
  have hbb := held_bd b
  obtain ⟨a', ea⟩ : ∃ a', held a = a' := ⟨_, rfl⟩
  obtain ⟨b', eb⟩ : ∃ b', held b = b' := ⟨_, rfl⟩
  rw [ea, eb]
  rw [eb] at hb hbb
  rw [ea] at ha
  have EA := Lib.hid ea
  have EB := Lib.hid eb
  clear ea eb
  have i1 := ha.1
  have i2 := ha.2
  have i3 := hbb.2
  clear ha hbb
  go_enter Try.func66, Try.ntmps66
  go_wp2_with (first | (go_at_call 59; refine (rdown_any _ _ _ (by omega) (by omega) (by omega) (by omega)).mono ?_; rintro e w' ⟨rfl, rfl⟩) | (go_at_call 58; refine (rheld_any _ _).mono ?_; rintro e w' ⟨rfl, rfl⟩; first | rw [EA.out] | rw [EB.out] | skip))
  go_ret
  exact ⟨rfl, rfl⟩
end Go.Proofs.Ytneegcnidoopmaa
