/- Contracts of (grade.Curve).Rises and ref39.Rises. Conditions: the pins lie behind the slice. -/
import Derived.Test.YtneegcnidoopmaaC
import Derived.Test.YtneegcnidoopmaaD
namespace Go.Proofs.Ytneegcnidoopmaa
open Go.RowKit

set_option maxHeartbeats 1000000 in
theorem rises_any (A : Option Addr) (n cap : Nat) (X Y : Nat → Int) (w : World) (hn : n ≤ 9223372036854775806) (hc : Cells2 w A n X Y) :
    Calls Try.prog 16 #[.slice A n cap] w fun e w' => e = .returned (.bool (risesB X Y n)) ∧ Grew w w' := by
  have HC := Lib.hid hc
  clear hc
  go_enter Try.func16, Try.ntmps16
  go_wp2
  go_loopw [3] (fun i wr => ∃ k : Nat, k ≤ n ∧ i = .int .i64 ((k + 1 : Nat) : Int) ∧ UpTo Y (k + 1) ∧ Below w.heap.size w wr) (fun i _ => n + 1 - (intOf i).toNat)
  case atStart => exact ⟨0, Nat.zero_le _, rfl, UpTo.one Y, Below.refl _ _⟩
  case round =>
    obtain ⟨k, hk, rfl, hp, hb⟩ := hrel
    by_cases hlt : k + 1 < n
    · obtain ⟨b, off, rfl, hcell⟩ := HC.out (by omega)
      have cy : wr.cell? ⟨b, off + k * 2 + 1, none⟩ = some (.int .i64 (Y k)) := cell_later hb (hcell k (by omega)).2
      have cz : wr.cell? ⟨b, off + (k + 1) * 2 + 1, none⟩ = some (.int .i64 (Y (k + 1))) := cell_later hb (hcell (k + 1) hlt).2
      have lb : b < wr.heap.size := World.block_lt_of_cell? _ _ cy
      have Hp := Lib.hid hp
      clear hp hcell
      by_cases g1 : Y (k + 1) < Y k
      · go_wp2
        refine wp_region_ext (by kernel_rfl) (by kernel_rfl) ?_
        repeat (go_big_quiet_step (fail))
        refine wpQuiet_nil ?_
        rintro _ ⟨x1, rfl⟩
        go_wp2
        go_ret
        exact ⟨ret_b (risesB_fall hlt g1).symm, Grew.of (by repeat (first | assumption | exact gr_refl _ | refine gr_alloc ?_ _ | refine gr_drew ?_ | refine gr_drewN ?_ _ | refine gr_ext ?_ _ | (refine gr_set ?_ ?_ _; rotate_left; (simp <;> omega))))⟩
      · have d1 : decide (Y (k + 1) < Y k) = false := decide_eq_false g1
        go_wp2
        refine wp_region_ext (by kernel_rfl) (by kernel_rfl) ?_
        repeat (go_big_quiet_step (fail))
        refine wpQuiet_nil ?_
        rintro _ ⟨x1, rfl⟩
        go_wp2
        go_roundw
        case rel => exact ⟨k + 1, by omega, by go_num, Hp.out.succ (by omega), (by repeat (first | assumption | exact gr_refl _ | refine gr_alloc ?_ _ | refine gr_drew ?_ | refine gr_drewN ?_ _ | refine gr_ext ?_ _ | (refine gr_set ?_ ?_ _; rotate_left; (simp <;> omega))))⟩
        case measure => simp [intOf]; omega
    · have hu : UpTo Y n := fun i hi => hp i (by omega)
      have E := Lib.hid (risesB_up (X := X) hu)
      clear hp hu
      go_wp2_with (go_at_call 12; refine (right_any A n cap X Y _ (by omega) (HC.out.below hb)).mono ?_; rintro e w' ⟨rfl, x1, rfl⟩)
      go_ret
      exact ⟨ret_b E.out.symm, Grew.of (by repeat (first | assumption | exact gr_refl _ | refine gr_alloc ?_ _ | refine gr_drew ?_ | refine gr_drewN ?_ _ | refine gr_ext ?_ _ | (refine gr_set ?_ ?_ _; rotate_left; (simp <;> omega))))⟩

set_option maxHeartbeats 1000000 in
theorem rrises_any (A : Option Addr) (n cap : Nat) (X Y : Nat → Int) (w : World) (hn : n ≤ 9223372036854775806) (hc : Cells2 w A n X Y) :
    Calls Try.prog 17 #[.slice A n cap] w fun e w' => e = .returned (.bool (risesB X Y n)) ∧ Grew w w' := by
  have HC := Lib.hid hc
  clear hc
  by_cases ok : PinsOk X Y n
  · have R : Hid (pinsB X Y n = true) := pinsB_t ok
    have H := Lib.hid ok
    clear ok
    go_enter Try.func17, Try.ntmps17
    go_wp2_with (go_at_call 13; refine (rright_any A n cap X Y _ (by omega) HC.out).mono ?_; rintro e w' ⟨rfl, x0, rfl⟩; rw [R.out])
    go_loopw [3] (fun i wr => ∃ k : Nat, k ≤ n ∧ i = .int .i64 ((k + 1 : Nat) : Int) ∧ UpTo Y (k + 1) ∧ Below w.heap.size w wr) (fun i _ => n + 1 - (intOf i).toNat)
    case atStart => exact ⟨0, Nat.zero_le _, rfl, UpTo.one Y, x0.below⟩
    case round =>
      obtain ⟨k, hk, rfl, hp, hb⟩ := hrel
      by_cases hlt : k + 1 < n
      · obtain ⟨b, off, rfl, hcell⟩ := HC.out (by omega)
        have cy : wr.cell? ⟨b, off + k * 2 + 1, none⟩ = some (.int .i64 (Y k)) := cell_later hb (hcell k (by omega)).2
        have cz : wr.cell? ⟨b, off + (k + 1) * 2 + 1, none⟩ = some (.int .i64 (Y (k + 1))) := cell_later hb (hcell (k + 1) hlt).2
        have lb : b < wr.heap.size := World.block_lt_of_cell? _ _ cy
        have Hp := Lib.hid hp
        clear hp hcell
        by_cases g1 : Y (k + 1) < Y k
        · go_wp2
          refine wp_region_ext (by kernel_rfl) (by kernel_rfl) ?_
          repeat (go_big_quiet_step (fail))
          refine wpQuiet_nil ?_
          rintro _ ⟨x1, rfl⟩
          go_wp2
          go_ret
          exact ⟨ret_b (risesB_fall hlt g1).symm, Grew.of (by repeat (first | assumption | exact gr_refl _ | refine gr_alloc ?_ _ | refine gr_drew ?_ | refine gr_drewN ?_ _ | refine gr_ext ?_ _ | (refine gr_set ?_ ?_ _; rotate_left; (simp <;> omega))))⟩
        · have d1 : decide (Y (k + 1) < Y k) = false := decide_eq_false g1
          go_wp2
          refine wp_region_ext (by kernel_rfl) (by kernel_rfl) ?_
          repeat (go_big_quiet_step (fail))
          refine wpQuiet_nil ?_
          rintro _ ⟨x1, rfl⟩
          go_wp2
          go_roundw
          case rel => exact ⟨k + 1, by omega, by go_num, Hp.out.succ (by omega), (by repeat (first | assumption | exact gr_refl _ | refine gr_alloc ?_ _ | refine gr_drew ?_ | refine gr_drewN ?_ _ | refine gr_ext ?_ _ | (refine gr_set ?_ ?_ _; rotate_left; (simp <;> omega))))⟩
          case measure => simp [intOf]; omega
      · have hu : UpTo Y n := fun i hi => hp i (by omega)
        have E := Lib.hid (risesB_t H.out hu)
        clear hp hu
        go_wp2
        go_ret
        exact ⟨ret_b E.out.symm, Grew.of (by repeat (first | assumption | exact gr_refl _ | refine gr_alloc ?_ _ | refine gr_drew ?_ | refine gr_drewN ?_ _ | refine gr_ext ?_ _ | (refine gr_set ?_ ?_ _; rotate_left; (simp <;> omega))))⟩
  · have R : Hid (pinsB X Y n = false) := pinsB_f ok
    have E : Hid (risesB X Y n = false) := risesB_no ok
    clear ok
    go_enter Try.func17, Try.ntmps17
    go_wp2_with (go_at_call 13; refine (rright_any A n cap X Y _ (by omega) HC.out).mono ?_; rintro e w' ⟨rfl, x0, rfl⟩; rw [R.out])
    go_ret
    exact ⟨ret_b E.out.symm, Grew.of (by repeat (first | assumption | exact gr_refl _ | refine gr_alloc ?_ _ | refine gr_drew ?_ | refine gr_drewN ?_ _ | refine gr_ext ?_ _ | (refine gr_set ?_ ?_ _; rotate_left; (simp <;> omega))))⟩
end Go.Proofs.Ytneegcnidoopmaa
