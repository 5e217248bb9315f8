/- Contracts of fix.in, floor, Div, Of, Unit, hue.Shade and of their references. No conditions but the ranges named. -/
import Derived.Test.YtneegcnidoopmaaDoorA
namespace Go.Proofs.YtneegcnidoopmaaDoor
open Go.RowKit

def shadeF (y : Int) : Int := (255 * unitF y + 32768) / 65536
theorem shadeF_bd (y : Int) : 0 ≤ shadeF y ∧ shadeF y ≤ 255 := by have := unitF_bd y; unfold shadeF; omega
theorem unitF_lo {a : Int} (h : a < 0) : unitF a = 0 := if_pos h
theorem unitF_hi {a : Int} (h : 65536 < a) : unitF a = 65536 := by unfold unitF; rw [if_neg (by omega), if_pos h]
theorem unitF_in {a : Int} (h : 0 ≤ a) (h1 : a ≤ 65536) : unitF a = a := by unfold unitF; rw [if_neg (by omega), if_neg (by omega)]

theorem in_any (n : Int) (w : World) : Calls Tryd.prog 51 #[.int .i64 n] w fun e w' => e = .returned (.int .i64 (held n)) ∧ w = w' := by
  go_enter Tryd.func51, Tryd.ntmps51
  go_wp2_with (go_at_call 50; refine (clamp_any _ _).mono ?_; rintro e w' ⟨rfl, rfl⟩)
  go_ret
  exact ⟨rfl, rfl⟩

theorem unit_any (a : Int) (w : World) : Calls Tryd.prog 60 #[.int .i64 a] w fun e w' => e = .returned (.int .i64 (unitF a)) ∧ w = w' := by
  by_cases h1 : a ≤ 0
  · have e : unitF a = 0 := by unfold unitF; split <;> (try split) <;> omega
    rw [e]
    go_enter Tryd.func60, Tryd.ntmps60
    go_wp2
    go_ret
    exact ⟨ret_i (by omega), rfl⟩
  · by_cases h2 : 65536 < a
    · rw [unitF_hi h2]
      go_enter Tryd.func60, Tryd.ntmps60
      go_wp2
      go_ret
      exact ⟨ret_i (by omega), rfl⟩
    · rw [unitF_in (by omega) (by omega)]
      go_enter Tryd.func60, Tryd.ntmps60
      go_wp2
      go_ret
      exact ⟨ret_i (by omega), rfl⟩
theorem runit_any (a : Int) (w : World) : Calls Tryd.prog 57 #[.int .i64 a] w fun e w' => e = .returned (.int .i64 (unitF a)) ∧ w = w' := by
  by_cases h1 : a < 0
  · rw [unitF_lo h1]
    go_enter Tryd.func57, Tryd.ntmps57
    go_wp2
    go_ret
    exact ⟨rfl, rfl⟩
  · by_cases h2 : 65536 < a
    · rw [unitF_hi h2]
      go_enter Tryd.func57, Tryd.ntmps57
      go_wp2
      go_ret
      exact ⟨rfl, rfl⟩
    · rw [unitF_in (by omega) (by omega)]
      go_enter Tryd.func57, Tryd.ntmps57
      go_wp2
      go_ret
      exact ⟨rfl, rfl⟩

theorem ret_u8 {a b : Int} (h : a = b) : Ending.returned (Value.int .u8 a) = Ending.returned (Value.int .u8 b) := by rw [h]
theorem of_any (n : Int) (w : World) (h0 : 0 ≤ n) (h : n ≤ 255) : Calls Tryd.prog 47 #[.int .i64 n] w fun e w' => e = .returned (.int .i64 (n * 65536)) ∧ w = w' := by
  have e := held_in (n := n * 65536) (by omega) (by omega)
  have E := Lib.hid e
  clear e
  go_enter Tryd.func47, Tryd.ntmps47
  go_wp2_with (go_at_call 50; refine (clamp_any _ _).mono ?_; rintro e w' ⟨rfl, rfl⟩; rw [E.out])
  go_ret
  exact ⟨rfl, rfl⟩
theorem rof_any (n : Int) (w : World) (h0 : 0 ≤ n) (h : n ≤ 255) : Calls Tryd.prog 36 #[.int .i64 n] w fun e w' => e = .returned (.int .i64 (n * 65536)) ∧ w = w' := by
  go_enter Tryd.func36, Tryd.ntmps36
  go_wp2
  go_ret
  exact ⟨rfl, rfl⟩

/-- fix.floor, by a number above 0. -/
theorem floor_any (n d : Int) (w : World) (hd : 0 < d) (hd2 : d ≤ 281474976710656) (h1 : -1125899906842624000 ≤ n) (h2 : n ≤ 1125899906842624000) :
    Calls Tryd.prog 52 #[.int .i64 n, .int .i64 d] w fun e w' => e = .returned (.int .i64 (n / d)) ∧ w = w' := by
  have hb := tdiv_bd (n := n) (d := d) (B := 1125899906842624000) hd h1 h2 (by omega)
  have hq1 := hb.1
  have hq2 := hb.2
  have ev := tdiv_floor (n := n) hd
  have hs := Int.tmod_nonneg (a := n) d
  have dd : decide (d < 0) = false := decide_eq_false (by omega)
  by_cases c : n.tmod d < 0
  · have hn : n < 0 := by
      by_cases h : 0 ≤ n
      · have := hs h; omega
      · omega
    rw [if_pos c] at ev
    have cc : (n.tmod d != 0) = true := by simp; omega
    have E := Lib.hid ev
    clear ev hs hb
    go_enter Tryd.func52, Tryd.ntmps52
    go_wp2
    go_ret
    exact ⟨ret_i E.out, rfl⟩
  · rw [if_neg c] at ev
    by_cases c0 : n.tmod d = 0
    · have E := Lib.hid ev
      clear ev hs hb
      go_enter Tryd.func52, Tryd.ntmps52
      go_wp2
      go_ret
      exact ⟨ret_i E.out, rfl⟩
    · have hn : ¬ n < 0 := by
        intro hn
        have := Int.tmod_nonneg (a := -n) d (by omega)
        rw [Int.neg_tmod] at this
        omega
      have cc : (n.tmod d != 0) = true := by simp; omega
      have cm : (n % d != 0) = true := by rw [← Int.tmod_eq_emod_of_nonneg (by omega)]; exact cc
      have E := Lib.hid ev
      clear ev hs hb
      go_enter Tryd.func52, Tryd.ntmps52
      go_wp2
      go_ret
      exact ⟨ret_i E.out, rfl⟩

/-- fix.Div, by a number above 0. -/
theorem fdiv_any (a b : Int) (w : World) (hb : 0 < held b) : Calls Tryd.prog 32 #[.int .i64 a, .int .i64 b] w fun e w' => e = .returned (.int .i64 (held (held a * 65536 / held b))) ∧ w = w' := by
  have ha := held_bd a
  have hbb := held_bd b
  obtain ⟨a', ea⟩ : ∃ a', held a = a' := ⟨_, rfl⟩
  obtain ⟨b', eb⟩ : ∃ b', held b = b' := ⟨_, rfl⟩
  rw [ea, eb]
  rw [eb] at hb hbb
  rw [ea] at ha
  have EA := Lib.hid ea
  have EB := Lib.hid eb
  clear ea eb
  have i1 := ha.1
  have i2 := ha.2
  have i3 := hbb.2
  clear ha hbb
  go_enter Tryd.func32, Tryd.ntmps32
  go_wp2_with (first | (go_at_call 51; refine (in_any _ _).mono ?_; rintro e w' ⟨rfl, rfl⟩; first | rw [EA.out] | rw [EB.out]) | (go_at_call 52; refine (floor_any _ _ _ (by omega) (by omega) (by omega) (by omega)).mono ?_; rintro e w' ⟨rfl, rfl⟩) | (go_at_call 50; refine (clamp_any _ _).mono ?_; rintro e w' ⟨rfl, rfl⟩))
  go_ret
  exact ⟨rfl, rfl⟩
theorem rdiv_any (a b : Int) (w : World) (hb : 0 < held b) : Calls Tryd.prog 39 #[.int .i64 a, .int .i64 b] w fun e w' => e = .returned (.int .i64 (held (held a * 65536 / held b))) ∧ w = w' := by
  have ha := held_bd a
  have hbb := held_bd b
  obtain ⟨a', ea⟩ : ∃ a', held a = a' := ⟨_, rfl⟩
  obtain ⟨b', eb⟩ : ∃ b', held b = b' := ⟨_, rfl⟩
  rw [ea, eb]
  rw [eb] at hb hbb
  rw [ea] at ha
  have EA := Lib.hid ea
  have EB := Lib.hid eb
  clear ea eb
  have i1 := ha.1
  have i2 := ha.2
  have i3 := hbb.2
  clear ha hbb
  go_enter Tryd.func39, Tryd.ntmps39
  go_wp2_with (first | (go_at_call 54; refine (rdown_any _ _ _ (by omega) (by omega) (by omega) (by omega)).mono ?_; rintro e w' ⟨rfl, rfl⟩) | (go_at_call 53; refine (rheld_any _ _).mono ?_; rintro e w' ⟨rfl, rfl⟩; first | rw [EA.out] | rw [EB.out] | skip))
  go_ret
  exact ⟨rfl, rfl⟩
end Go.Proofs.YtneegcnidoopmaaDoor
