/- Contracts of grade's (Curve).Right and of ref39.Right: whether the pins are as they may be. Conditions: the pins lie behind the slice. -/
import Derived.Test.YtneegcnidoopmaaB
namespace Go.Proofs.Ytneegcnidoopmaa
open Go.RowKit

set_option maxHeartbeats 1000000 in
theorem right_any (A : Option Addr) (n cap : Nat) (X Y : Nat → Int) (w : World) (hn : n ≤ 9223372036854775807) (hc : Cells2 w A n X Y) :
    Calls Try.prog 12 #[.slice A n cap] w fun e w' => e = .returned (.bool (pinsB X Y n)) ∧ Grew w w' := by
  by_cases h1 : n < 1
  · rw [pinsB_f (fun h => by have := h.1; omega)]
    go_enter Try.func12, Try.ntmps12
    go_wp2
    go_ret
    exact ⟨rfl, Grew.of (by repeat (first | assumption | exact gr_refl _ | refine gr_alloc ?_ _ | refine gr_drew ?_ | refine gr_drewN ?_ _ | refine gr_ext ?_ _ | (refine gr_set ?_ ?_ _; rotate_left; (simp <;> omega))))⟩
  by_cases h2 : 16 < n
  · rw [pinsB_f (fun h => by have := h.2.1; omega)]
    go_enter Try.func12, Try.ntmps12
    go_wp2
    go_ret
    exact ⟨rfl, Grew.of (by repeat (first | assumption | exact gr_refl _ | refine gr_alloc ?_ _ | refine gr_drew ?_ | refine gr_drewN ?_ _ | refine gr_ext ?_ _ | (refine gr_set ?_ ?_ _; rotate_left; (simp <;> omega))))⟩
  obtain ⟨b, off, rfl, hcell⟩ := hc (by omega)
  clear hc
  have HC := Lib.hid hcell
  clear hcell
  go_enter Try.func12, Try.ntmps12
  go_wp2
  go_loopw [15] (fun i wr => ∃ k : Nat, k ≤ n ∧ i = .int .i64 k ∧ PinsTo X Y k ∧ Below w.heap.size w wr) (fun i _ => n - (intOf i).toNat)
  case atStart => exact ⟨0, Nat.zero_le _, rfl, PinsTo.zero X Y, Below.refl _ _⟩
  case round =>
    obtain ⟨k, hk, rfl, hp, hb⟩ := hrel
    by_cases hlt : k < n
    · have cx : wr.cell? ⟨b, off + k * 2, none⟩ = some (.int .i64 (X k)) := cell_later hb (HC.out k hlt).1
      have cy : wr.cell? ⟨b, off + k * 2 + 1, none⟩ = some (.int .i64 (Y k)) := cell_later hb (HC.out k hlt).2
      have lb : b < wr.heap.size := World.block_lt_of_cell? _ _ cx
      have Hp := Lib.hid hp
      clear hp
      by_cases g1 : X k < -16777216
      · skip
        go_wp2
        refine wp_region_ext (by kernel_rfl) (by kernel_rfl) ?_
        repeat (go_big_quiet_step (fail))
        refine wpQuiet_nil ?_
        rintro _ ⟨x1, rfl⟩
        go_wp2
        go_ret
        exact ⟨ret_b (pinsB_f (fun h => by have := (h.2.2.1 k hlt).1; omega)).symm, Grew.of (by repeat (first | assumption | exact gr_refl _ | refine gr_alloc ?_ _ | refine gr_drew ?_ | refine gr_drewN ?_ _ | refine gr_ext ?_ _ | (refine gr_set ?_ ?_ _; rotate_left; (simp <;> omega))))⟩
      have d1 : decide (X k < -16777216) = false := decide_eq_false g1
      by_cases g2 : 16777216 < X k
      · skip
        go_wp2
        refine wp_region_ext (by kernel_rfl) (by kernel_rfl) ?_
        repeat (go_big_quiet_step (fail))
        refine wpQuiet_nil ?_
        rintro _ ⟨x1, rfl⟩
        go_wp2
        go_ret
        exact ⟨ret_b (pinsB_f (fun h => by have := (h.2.2.1 k hlt).2.1; omega)).symm, Grew.of (by repeat (first | assumption | exact gr_refl _ | refine gr_alloc ?_ _ | refine gr_drew ?_ | refine gr_drewN ?_ _ | refine gr_ext ?_ _ | (refine gr_set ?_ ?_ _; rotate_left; (simp <;> omega))))⟩
      have d2 : decide (16777216 < X k) = false := decide_eq_false g2
      by_cases g3 : Y k < -16777216
      · skip
        go_wp2
        refine wp_region_ext (by kernel_rfl) (by kernel_rfl) ?_
        repeat (go_big_quiet_step (fail))
        refine wpQuiet_nil ?_
        rintro _ ⟨x1, rfl⟩
        go_wp2
        go_ret
        exact ⟨ret_b (pinsB_f (fun h => by have := (h.2.2.1 k hlt).2.2.1; omega)).symm, Grew.of (by repeat (first | assumption | exact gr_refl _ | refine gr_alloc ?_ _ | refine gr_drew ?_ | refine gr_drewN ?_ _ | refine gr_ext ?_ _ | (refine gr_set ?_ ?_ _; rotate_left; (simp <;> omega))))⟩
      have d3 : decide (Y k < -16777216) = false := decide_eq_false g3
      by_cases g4 : 16777216 < Y k
      · skip
        go_wp2
        refine wp_region_ext (by kernel_rfl) (by kernel_rfl) ?_
        repeat (go_big_quiet_step (fail))
        refine wpQuiet_nil ?_
        rintro _ ⟨x1, rfl⟩
        go_wp2
        go_ret
        exact ⟨ret_b (pinsB_f (fun h => by have := (h.2.2.1 k hlt).2.2.2; omega)).symm, Grew.of (by repeat (first | assumption | exact gr_refl _ | refine gr_alloc ?_ _ | refine gr_drew ?_ | refine gr_drewN ?_ _ | refine gr_ext ?_ _ | (refine gr_set ?_ ?_ _; rotate_left; (simp <;> omega))))⟩
      have d4 : decide (16777216 < Y k) = false := decide_eq_false g4
      by_cases g5 : k = 0
      · subst g5
        have cx0 : wr.cell? ⟨b, off, none⟩ = some (.int .i64 (X 0)) := by simpa using cx
        have cy0 : wr.cell? ⟨b, off + 1, none⟩ = some (.int .i64 (Y 0)) := by simpa using cy
        clear cx cy
        go_wp2
        refine wp_region_ext (by kernel_rfl) (by kernel_rfl) ?_
        repeat (go_big_quiet_step (fail))
        refine wpQuiet_nil ?_
        rintro _ ⟨x1, rfl⟩
        go_wp2
        go_roundw
        case rel => exact ⟨1, by omega, by go_num, PinsTo.one (by omega) (by omega) (by omega) (by omega), (by repeat (first | assumption | exact gr_refl _ | refine gr_alloc ?_ _ | refine gr_drew ?_ | refine gr_drewN ?_ _ | refine gr_ext ?_ _ | (refine gr_set ?_ ?_ _; rotate_left; (simp <;> omega))))⟩
        case measure => simp [intOf]; omega
      · obtain ⟨j, rfl⟩ : ∃ j, k = j + 1 := ⟨k - 1, by omega⟩
        have cj : wr.cell? ⟨b, off + j * 2, none⟩ = some (.int .i64 (X j)) := cell_later hb (HC.out j (by omega)).1
        by_cases g6 : X (j + 1) ≤ X j
        · skip
          go_wp2
          refine wp_region_ext (by kernel_rfl) (by kernel_rfl) ?_
          repeat (go_big_quiet_step (fail))
          refine wpQuiet_nil ?_
          rintro _ ⟨x1, rfl⟩
          go_wp2
          go_ret
          exact ⟨ret_b (pinsB_f (fun h => by have := h.2.2.2 j hlt; omega)).symm, Grew.of (by repeat (first | assumption | exact gr_refl _ | refine gr_alloc ?_ _ | refine gr_drew ?_ | refine gr_drewN ?_ _ | refine gr_ext ?_ _ | (refine gr_set ?_ ?_ _; rotate_left; (simp <;> omega))))⟩
        · have d6 : decide (X (j + 1) ≤ X j) = false := decide_eq_false g6
          go_wp2
          refine wp_region_ext (by kernel_rfl) (by kernel_rfl) ?_
          repeat (go_big_quiet_step (fail))
          refine wpQuiet_nil ?_
          rintro _ ⟨x1, rfl⟩
          go_wp2
          go_roundw
          case rel => exact ⟨j + 1 + 1, by omega, by go_num, Hp.out.succ (by omega) (by omega) (by omega) (by omega) (by omega), (by repeat (first | assumption | exact gr_refl _ | refine gr_alloc ?_ _ | refine gr_drew ?_ | refine gr_drewN ?_ _ | refine gr_ext ?_ _ | (refine gr_set ?_ ?_ _; rotate_left; (simp <;> omega))))⟩
          case measure => simp [intOf]; omega
    · obtain rfl : k = n := by omega
      go_wp2
      go_ret
      exact ⟨ret_b (pinsB_t (hp.ok (by omega) (by omega))).symm, Grew.of (by repeat (first | assumption | exact gr_refl _ | refine gr_alloc ?_ _ | refine gr_drew ?_ | refine gr_drewN ?_ _ | refine gr_ext ?_ _ | (refine gr_set ?_ ?_ _; rotate_left; (simp <;> omega))))⟩
end Go.Proofs.Ytneegcnidoopmaa
