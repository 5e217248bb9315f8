/- Contracts of (grade.Curve).At and ref39.At: how high a curve is. Conditions: the pins lie behind the slice. -/
import Derived.Test.YtneegcnidoopmaaC
import Derived.Test.YtneegcnidoopmaaD
namespace Go.Proofs.Ytneegcnidoopmaa
open Go.RowKit

set_option maxHeartbeats 1000000 in
theorem at_any (A : Option Addr) (n cap : Nat) (X Y : Nat → Int) (x : Int) (w : World) (hn : n ≤ 9223372036854775806) (hcap : n ≤ cap) (hc : Cells2 w A n X Y) :
    Calls Try.prog 14 #[.slice A n cap, .int .i64 x] w fun e w' => e = .returned (.int .i64 (curveAt X Y n x)) ∧ Grew w w' := by
  by_cases ok : PinsOk X Y n
  · have R : Hid (pinsB X Y n = true) := pinsB_t ok
    have hn1 := ok.1
    have hn2 := ok.2.1
    have H := Lib.hid ok
    clear ok
    obtain ⟨b, off, rfl, hcell⟩ := hc (by omega)
    have c0 : w.cell? ⟨b, off, none⟩ = some (.int .i64 (X 0)) := by simpa using (hcell 0 (by omega)).1
    have c1 : w.cell? ⟨b, off + 1, none⟩ = some (.int .i64 (Y 0)) := by simpa using (hcell 0 (by omega)).2
    have lb : b < w.heap.size := World.block_lt_of_cell? _ _ c0
    have HC := Lib.hid hcell
    have HCC := Lib.hid hc
    clear hcell hc
    by_cases hx : held x ≤ X 0
    · have E := Lib.hid (curveAt_lo H.out hx)
      go_enter Try.func14, Try.ntmps14
      go_wp2_with (first | (go_at_call 12; refine (right_any _ n cap X Y _ (by omega) HCC.out).mono ?_; rintro e w' ⟨rfl, x0, rfl⟩; rw [R.out]) | (go_at_call 56; refine (clamp_any _ _).mono ?_; rintro e w' ⟨rfl, rfl⟩))
      go_ret
      exact ⟨ret_i E.out.symm, Grew.of (by repeat (first | assumption | exact gr_refl _ | refine gr_alloc ?_ _ | refine gr_drew ?_ | refine gr_drewN ?_ _ | refine gr_ext ?_ _ | (refine gr_set ?_ ?_ _; rotate_left; (simp <;> omega))))⟩
    · have E := Lib.hid (curveAt_hi H.out hx)
      have hx' : X 0 < held x := by omega
      generalize hxx : held x = y at *
      have HX := Lib.hid hxx
      clear hxx
      by_cases h1 : n = 1
      · subst h1
        have e2 : curveAt X Y 1 x = Y 0 := by rw [E.out, fromPin_end (by omega)]
        have E2 := Lib.hid e2
        clear e2
        go_enter Try.func14, Try.ntmps14
        go_wp2_with (first | (go_at_call 12; refine (right_any _ 1 cap X Y _ (by omega) HCC.out).mono ?_; rintro e w' ⟨rfl, x0, rfl⟩; rw [R.out]) | (go_at_call 56; refine (clamp_any _ _).mono ?_; rintro e w' ⟨rfl, rfl⟩; rw [HX.out]))
        all_goals
          refine wp_loop_rounds 1 ?_
          rw [rounds_succ]
          go_wp2
          go_ret
          exact ⟨ret_i E2.out.symm, Grew.of (by repeat (first | assumption | exact gr_refl _ | refine gr_alloc ?_ _ | refine gr_drew ?_ | refine gr_drewN ?_ _ | refine gr_ext ?_ _ | (refine gr_set ?_ ?_ _; rotate_left; (simp <;> omega))))⟩
      · have hcap1 : ¬ cap = 1 := by omega
        have hcap2 : ¬ cap ≤ 1 := by omega
        have cl : w.cell? ⟨b, off + (n - 1) * 2 + 1, none⟩ = some (.int .i64 (Y (n - 1))) := (HC.out (n - 1) (by omega)).2
        go_enter Try.func14, Try.ntmps14
        go_wp2_with (first | (go_at_call 12; refine (right_any _ n cap X Y _ (by omega) HCC.out).mono ?_; rintro e w' ⟨rfl, x0, rfl⟩; rw [R.out]) | (go_at_call 56; refine (clamp_any _ _).mono ?_; rintro e w' ⟨rfl, rfl⟩; rw [HX.out]))
        go_loopw [25] (fun i wr => ∃ k : Nat, k + 1 ≤ n ∧ i = .int .i64 k ∧ fromPin X Y n y (k + 1) = curveAt X Y n x ∧ X k ≤ y ∧ Below w.heap.size w wr) (fun i _ => n - (intOf i).toNat)
        case atStart => exact ⟨0, by omega, rfl, E.out.symm, by omega, x0.below⟩
        case round =>
          obtain ⟨k, hk, rfl, hp, hxk, hb⟩ := hrel
          have Hp := Lib.hid hp
          clear hp
          by_cases hlt : k + 1 < n
          · have ck0 : wr.cell? ⟨b, off + k * 2, none⟩ = some (.int .i64 (X k)) := cell_later hb (HC.out k (by omega)).1
            have ck1 : wr.cell? ⟨b, off + k * 2 + 1, none⟩ = some (.int .i64 (Y k)) := cell_later hb (HC.out k (by omega)).2
            have cp0 : wr.cell? ⟨b, off + 2 + k * 2, none⟩ = some (.int .i64 (X (k + 1))) := by have := cell_later hb (HC.out (k + 1) hlt).1; rwa [show off + (k + 1) * 2 = off + 2 + k * 2 by omega] at this
            have cp1 : wr.cell? ⟨b, off + 2 + k * 2 + 1, none⟩ = some (.int .i64 (Y (k + 1))) := by have := cell_later hb (HC.out (k + 1) hlt).2; rwa [show off + (k + 1) * 2 + 1 = off + 2 + k * 2 + 1 by omega] at this
            have lbr : b < wr.heap.size := World.block_lt_of_cell? _ _ ck0
            obtain ⟨i1, i2, i3, i4⟩ := H.out.2.2.1 k (by omega)
            obtain ⟨j1, j2, j3, j4⟩ := H.out.2.2.1 (k + 1) hlt
            have j5 := H.out.2.2.2 k hlt
            by_cases hle : y ≤ X (k + 1)
            · have E3 := Lib.hid (fromPin_in (X := X) (Y := Y) hlt hle)
              go_wp2
              refine wp_region_ext (by kernel_rfl) (by kernel_rfl) ?_
              repeat (go_big_quiet_step ((first | (go_at_call 57; exact Calls.grew _ (between_any _ _ _ _ _ _ i1 i2 i3 i4 j1 j2 j3 j4 j5 hxk hle)))))
              refine wpQuiet_nil ?_
              rintro _ ⟨x1, rfl⟩
              go_wp2
              go_ret
              exact ⟨ret_i (by rw [← Hp.out, E3.out, Nat.add_sub_cancel]), Grew.of (by repeat (first | assumption | exact gr_refl _ | refine gr_alloc ?_ _ | refine gr_drew ?_ | refine gr_drewN ?_ _ | refine gr_ext ?_ _ | (refine gr_set ?_ ?_ _; rotate_left; (simp <;> omega))))⟩
            · have E3 := Lib.hid (fromPin_on (X := X) (Y := Y) hlt hle)
              go_wp2
              go_roundw
              case rel => exact ⟨k + 1, by omega, by go_num, by rw [← Hp.out, E3.out], by omega, (by repeat (first | assumption | exact gr_refl _ | refine gr_alloc ?_ _ | refine gr_drew ?_ | refine gr_drewN ?_ _ | refine gr_ext ?_ _ | (refine gr_set ?_ ?_ _; rotate_left; (simp <;> omega))))⟩
              case measure => simp [intOf]; omega
          · obtain rfl : n = k + 1 := by omega
            have cll : wr.cell? ⟨b, off + k * 2 + 1, none⟩ = some (.int .i64 (Y k)) := cell_later hb (HC.out k (by omega)).2
            have E3 : Hid (fromPin X Y (k + 1) y (k + 1) = Y k) := fromPin_end (by omega)
            go_wp2
            go_ret
            exact ⟨ret_i (by rw [← Hp.out, E3.out]), Grew.of (by repeat (first | assumption | exact gr_refl _ | refine gr_alloc ?_ _ | refine gr_drew ?_ | refine gr_drewN ?_ _ | refine gr_ext ?_ _ | (refine gr_set ?_ ?_ _; rotate_left; (simp <;> omega))))⟩
  · have R : Hid (pinsB X Y n = false) := pinsB_f ok
    have E := Lib.hid (curveAt_no (x := x) ok)
    have HC := Lib.hid hc
    clear ok hc
    go_enter Try.func14, Try.ntmps14
    go_wp2_with (go_at_call 12; refine (right_any A n cap X Y _ (by omega) HC.out).mono ?_; rintro e w' ⟨rfl, x0, rfl⟩; rw [R.out])
    go_ret
    exact ⟨ret_i E.out.symm, Grew.of (by repeat (first | assumption | exact gr_refl _ | refine gr_alloc ?_ _ | refine gr_drew ?_ | refine gr_drewN ?_ _ | refine gr_ext ?_ _ | (refine gr_set ?_ ?_ _; rotate_left; (simp <;> omega))))⟩
end Go.Proofs.Ytneegcnidoopmaa
