/- Contract of ref39.At: how high a curve is. Conditions: the pins lie behind the slice. -/
import Derived.Test.YtneegcnidoopmaaC
import Derived.Test.YtneegcnidoopmaaD
import Derived.BigRegion
namespace Go.Proofs.Ytneegcnidoopmaa
open Go.RowKit

set_option maxHeartbeats 1000000 in
theorem rat_any (A : Option Addr) (n cap : Nat) (X Y : Nat → Int) (x : Int) (w : World) (hn : n ≤ 9223372036854775806) (hc : Cells2 w A n X Y) :
    Calls Try.prog 15 #[.slice A n cap, .int .i64 x] w fun e w' => e = .returned (.int .i64 (curveAt X Y n x)) ∧ Grew w w' := by
  by_cases ok : PinsOk X Y n
  · have R : Hid (pinsB X Y n = true) := pinsB_t ok
    have hn1 := ok.1
    have hn2 := ok.2.1
    have H := Lib.hid ok
    clear ok
    obtain ⟨b, off, rfl, hcell⟩ := hc (by omega)
    have c0 : w.cell? ⟨b, off, none⟩ = some (.int .i64 (X 0)) := by simpa using (hcell 0 (by omega)).1
    have c1 : w.cell? ⟨b, off + 1, none⟩ = some (.int .i64 (Y 0)) := by simpa using (hcell 0 (by omega)).2
    have lb : b < w.heap.size := World.block_lt_of_cell? _ _ c0
    have HC := Lib.hid hcell
    have HCC := Lib.hid hc
    clear hcell hc
    have E0 := Lib.hid (fun hl => curveAt_last0 (X := X) (Y := Y) (x := x) H.out hl)
    have E1 := Lib.hid (fun j hl hj => curveAt_lastN (X := X) (Y := Y) (x := x) H.out (j := j) hl hj)
    have E2 := Lib.hid (fun j hl hj => curveAt_lastI (X := X) (Y := Y) (x := x) H.out (j := j) hl hj)
    generalize hxx : held x = y at *
    have HX := Lib.hid hxx
    clear hxx
    go_enter Try.func15, Try.ntmps15
    go_wp2_with (first | (go_at_call 13; refine (rright_any _ n cap X Y _ (by omega) HCC.out).mono ?_; rintro e w' ⟨rfl, x0, rfl⟩; rw [R.out]) | (go_at_call 58; refine (rheld_any _ _).mono ?_; rintro e w' ⟨rfl, rfl⟩; rw [HX.out]))
    go_loopw [5, 6] (fun l i wr => ∃ k : Nat, k ≤ n ∧ i = .int .i64 k ∧ l = .int .i64 (lastPin X y k) ∧ Below w.heap.size w wr) (fun _ i _ => n - (intOf i).toNat)
    case atStart => exact ⟨0, by omega, rfl, rfl, x0.below⟩
    case round =>
      obtain ⟨k, hk, rfl, rfl, hb⟩ := hrel
      by_cases hlt : k < n
      · have ck0 : wr.cell? ⟨b, off + k * 2, none⟩ = some (.int .i64 (X k)) := cell_later hb (HC.out k (by omega)).1
        by_cases g : X k < y
        · have s : lastPin X y (k + 1) = (k : Int) := if_pos g
          have S := Lib.hid s
          clear s
          go_wp2
          go_roundw
          case rel => exact ⟨k + 1, by omega, by go_num, by rw [S.out], (by repeat (first | assumption | exact gr_refl _ | refine gr_alloc ?_ _ | refine gr_drew ?_ | refine gr_drewN ?_ _ | refine gr_ext ?_ _ | (refine gr_set ?_ ?_ _; rotate_left; (simp <;> omega))))⟩
          case measure => simp [intOf]; omega
        · have s : lastPin X y (k + 1) = lastPin X y k := if_neg g
          have S := Lib.hid s
          clear s
          generalize lastPin X y k = q at *
          go_wp2
          go_roundw
          case rel => exact ⟨k + 1, by omega, by go_num, by rw [S.out], (by repeat (first | assumption | exact gr_refl _ | refine gr_alloc ?_ _ | refine gr_drew ?_ | refine gr_drewN ?_ _ | refine gr_ext ?_ _ | (refine gr_set ?_ ?_ _; rotate_left; (simp <;> omega))))⟩
          case measure => simp [intOf]; omega
      · obtain rfl : n = k := by omega
        have bd := lastPin_bd X y n
        by_cases g0 : lastPin X y n < 0
        · have e := E0.out g0
          have E := Lib.hid e
          clear e
          have cc := cell_later hb c1
          generalize lastPin X y n = q at *
          go_wp2
          go_ret
          exact ⟨ret_i E.out.symm, Grew.of (by repeat (first | assumption | exact gr_refl _ | refine gr_alloc ?_ _ | refine gr_drew ?_ | refine gr_drewN ?_ _ | refine gr_ext ?_ _ | (refine gr_set ?_ ?_ _; rotate_left; (simp <;> omega))))⟩
        · obtain ⟨j, hj⟩ : ∃ j : Nat, lastPin X y n = (j : Int) := ⟨(lastPin X y n).toNat, by omega⟩
          rw [hj] at bd g0 ⊢
          have cj0 : wr.cell? ⟨b, off + j * 2, none⟩ = some (.int .i64 (X j)) := cell_later hb (HC.out j (by omega)).1
          have cj1 : wr.cell? ⟨b, off + j * 2 + 1, none⟩ = some (.int .i64 (Y j)) := cell_later hb (HC.out j (by omega)).2
          have lbr : b < wr.heap.size := World.block_lt_of_cell? _ _ cj0
          by_cases g1 : j + 1 = n
          · have E := Lib.hid (E1.out j hj g1)
            have t1 : ((j : Int) == (n : Int) - 1) = true := beq_iff_eq.2 (by omega)
            have J := Lib.hid hj
            clear hj g1
            go_wp2
            go_ret
            exact ⟨ret_i E.out.symm, Grew.of (by repeat (first | assumption | exact gr_refl _ | refine gr_alloc ?_ _ | refine gr_drew ?_ | refine gr_drewN ?_ _ | refine gr_ext ?_ _ | (refine gr_set ?_ ?_ _; rotate_left; (simp <;> omega))))⟩
          · have E := Lib.hid (E2.out j hj (by omega))
            have hp := lastPin_hit hj
            have hq := hp.2 (j + 1) (by omega) (by omega)
            have hp1 := hp.1
            have t1 : ((j : Int) == (n : Int) - 1) = false := beq_eq_false_iff_ne.2 (by omega)
            have cp0 : wr.cell? ⟨b, off + (j + 1) * 2, none⟩ = some (.int .i64 (X (j + 1))) := cell_later hb (HC.out (j + 1) (by omega)).1
            have cp1 : wr.cell? ⟨b, off + (j + 1) * 2 + 1, none⟩ = some (.int .i64 (Y (j + 1))) := cell_later hb (HC.out (j + 1) (by omega)).2
            have J := Lib.hid hj
            have hjn : j + 1 < n := by omega
            clear hj g1 hp
            obtain ⟨i1, i2, i3, i4⟩ := H.out.2.2.1 j (by omega)
            obtain ⟨j1, j2, j3, j4⟩ := H.out.2.2.1 (j + 1) hjn
            have j5 := H.out.2.2.2 j hjn
            have bm := abs_mul_le (a := Y (j + 1) - Y j) (b := y - X j) (A := 33554432) (B := 33554432) (by omega) (by omega) (by omega) (by omega)
            have b1 : -1125899906842624 ≤ (Y (j + 1) - Y j) * (y - X j) := bm.1
            have b2 : (Y (j + 1) - Y j) * (y - X j) ≤ 1125899906842624 := bm.2
            have eq : wrap64 ((Y (j + 1) - Y j) * (y - X j)) = (Y (j + 1) - Y j) * (y - X j) := IntWalk.wrap64_in _ ⟨by omega, by omega⟩
            have q0 := ediv_bd (n := (Y (j + 1) - Y j) * (y - X j)) (d := X (j + 1) - X j) (B := 1125899906842624) (by omega) b1 b2 (by omega)
            have q1 := q0.1
            have q2 := q0.2
            clear bm q0
            go_wp2
            go_region
            all_goals
              go_wp2
              refine wp_region_ext (by kernel_rfl) (by kernel_rfl) ?_
              repeat (go_big_quiet_step ((first | (go_at_call 59; exact Calls.ext_same _ (rdown_any _ _ _ (by omega) (by omega) (by omega) (by omega))))))
              refine wpQuiet_nil ?_
              rintro _ ⟨x1, rfl⟩
              go_wp2
              go_ret
              exact ⟨ret_i E.out.symm, Grew.of (by repeat (first | assumption | exact gr_refl _ | refine gr_alloc ?_ _ | refine gr_drew ?_ | refine gr_drewN ?_ _ | refine gr_ext ?_ _ | (refine gr_set ?_ ?_ _; rotate_left; (simp <;> omega))))⟩
  · have R : Hid (pinsB X Y n = false) := pinsB_f ok
    have E := Lib.hid (curveAt_no (x := x) ok)
    have HC := Lib.hid hc
    clear ok hc
    go_enter Try.func15, Try.ntmps15
    go_wp2_with (go_at_call 13; refine (rright_any A n cap X Y _ (by omega) HC.out).mono ?_; rintro e w' ⟨rfl, x0, rfl⟩; rw [R.out])
    go_ret
    exact ⟨ret_i E.out.symm, Grew.of (by repeat (first | assumption | exact gr_refl _ | refine gr_alloc ?_ _ | refine gr_drew ?_ | refine gr_drewN ?_ _ | refine gr_ext ?_ _ | (refine gr_set ?_ ?_ _; rotate_left; (simp <;> omega))))⟩
end Go.Proofs.Ytneegcnidoopmaa
