/- Contracts of film.Size, plate.Picture: whether a size, a picture may be. No conditions. -/
import Derived.Test.YtneegcnidoopmaaDoorA
namespace Go.Proofs.YtneegcnidoopmaaDoor
open Go.RowKit

def sizeB (W H : Int) : Bool := decide (1 ≤ W ∧ W ≤ 64 ∧ 1 ≤ H ∧ H ≤ 64)
theorem sizeB_t {W H : Int} (h1 : 1 ≤ W) (h2 : W ≤ 64) (h3 : 1 ≤ H) (h4 : H ≤ 64) : sizeB W H = true := decide_eq_true ⟨h1, h2, h3, h4⟩
theorem sizeB_f {W H : Int} (h : ¬ (1 ≤ W ∧ W ≤ 64 ∧ 1 ≤ H ∧ H ≤ 64)) : sizeB W H = false := decide_eq_false h
theorem sizeB_out {W H : Int} (h : sizeB W H = true) : 1 ≤ W ∧ W ≤ 64 ∧ 1 ≤ H ∧ H ≤ 64 := of_decide_eq_true h
theorem area_bd {W H : Int} (h : sizeB W H = true) : 1 ≤ W * H ∧ W * H ≤ 4096 := by
  obtain ⟨h1, h2, h3, h4⟩ := sizeB_out h
  have := abs_mul_le (a := W) (b := H) (A := 64) (B := 64) (by omega) (by omega) (by omega) (by omega)
  have := Int.mul_le_mul (a := 1) (b := 1) (c := W) (d := H) h1 h3 (by omega) (by omega)
  omega

set_option maxHeartbeats 400000 in
theorem size_right_any (W H : Int) (w : World) : Calls Tryd.prog 27 #[.agg #[.int .i64 W, .int .i64 H]] w fun e w' => e = .returned (.bool (sizeB W H)) ∧ Grew w w' := by
  by_cases h1 : 1 ≤ W
  · by_cases h2 : W ≤ 64
    · by_cases h3 : 1 ≤ H
      · by_cases h4 : H ≤ 64
        · have E := Lib.hid (sizeB_t h1 h2 h3 h4)
          go_enter Tryd.func27, Tryd.ntmps27
          go_wp2
          go_ret
          exact ⟨ret_b E.out.symm, Grew.of (by repeat (first | assumption | exact gr_refl _ | refine gr_alloc ?_ _ | refine gr_drew ?_ | refine gr_drewN ?_ _ | refine gr_ext ?_ _ | (refine gr_set ?_ ?_ _; rotate_left; (simp <;> omega))))⟩
        · have E := Lib.hid (sizeB_f (W := W) (H := H) (fun h => by omega))
          have d4 : decide (H ≤ 64) = false := decide_eq_false h4
          go_enter Tryd.func27, Tryd.ntmps27
          go_wp2
          go_ret
          exact ⟨ret_b E.out.symm, Grew.of (by repeat (first | assumption | exact gr_refl _ | refine gr_alloc ?_ _ | refine gr_drew ?_ | refine gr_drewN ?_ _ | refine gr_ext ?_ _ | (refine gr_set ?_ ?_ _; rotate_left; (simp <;> omega))))⟩
      · have E := Lib.hid (sizeB_f (W := W) (H := H) (fun h => by omega))
        have d3 : decide (1 ≤ H) = false := decide_eq_false h3
        go_enter Tryd.func27, Tryd.ntmps27
        go_wp2
        go_ret
        exact ⟨ret_b E.out.symm, Grew.of (by repeat (first | assumption | exact gr_refl _ | refine gr_alloc ?_ _ | refine gr_drew ?_ | refine gr_drewN ?_ _ | refine gr_ext ?_ _ | (refine gr_set ?_ ?_ _; rotate_left; (simp <;> omega))))⟩
    · have E := Lib.hid (sizeB_f (W := W) (H := H) (fun h => by omega))
      have d2 : decide (W ≤ 64) = false := decide_eq_false h2
      go_enter Tryd.func27, Tryd.ntmps27
      go_wp2
      go_ret
      exact ⟨ret_b E.out.symm, Grew.of (by repeat (first | assumption | exact gr_refl _ | refine gr_alloc ?_ _ | refine gr_drew ?_ | refine gr_drewN ?_ _ | refine gr_ext ?_ _ | (refine gr_set ?_ ?_ _; rotate_left; (simp <;> omega))))⟩
  · have E := Lib.hid (sizeB_f (W := W) (H := H) (fun h => by omega))
    have d1 : decide (1 ≤ W) = false := decide_eq_false h1
    go_enter Tryd.func27, Tryd.ntmps27
    go_wp2
    go_ret
    exact ⟨ret_b E.out.symm, Grew.of (by repeat (first | assumption | exact gr_refl _ | refine gr_alloc ?_ _ | refine gr_drew ?_ | refine gr_drewN ?_ _ | refine gr_ext ?_ _ | (refine gr_set ?_ ?_ _; rotate_left; (simp <;> omega))))⟩

theorem size_right_t (W H : Int) (w : World) (h : sizeB W H = true) : Calls Tryd.prog 27 #[.agg #[.int .i64 W, .int .i64 H]] w fun e w' => e = .returned (.bool true) ∧ Grew w w' := by have := size_right_any W H w; rwa [h] at this
theorem size_right_f (W H : Int) (w : World) (h : sizeB W H = false) : Calls Tryd.prog 27 #[.agg #[.int .i64 W, .int .i64 H]] w fun e w' => e = .returned (.bool false) ∧ Grew w w' := by have := size_right_any W H w; rwa [h] at this

theorem pixels_any (W H : Int) (w : World) (h : sizeB W H = true) : Calls Tryd.prog 26 #[.agg #[.int .i64 W, .int .i64 H]] w fun e w' => e = .returned (.int .i64 (W * H)) ∧ Grew w w' := by
  have a := area_bd h
  have a1 := a.1
  have a2 := a.2
  have H := Lib.hid h
  clear a h
  go_enter Tryd.func26, Tryd.ntmps26
  go_wp2
  go_ret
  exact ⟨rfl, Grew.of (by repeat (first | assumption | exact gr_refl _ | refine gr_alloc ?_ _ | refine gr_drew ?_ | refine gr_drewN ?_ _ | refine gr_ext ?_ _ | (refine gr_set ?_ ?_ _; rotate_left; (simp <;> omega))))⟩

/-- A picture that may be. -/
def picB (W H : Int) (n : Nat) : Bool := sizeB W H && decide ((n : Int) = W * H)
theorem picB_bad {W H : Int} {n : Nat} (h : sizeB W H = false) : picB W H n = false := by unfold picB; rw [h]; rfl
theorem picB_eq {W H : Int} {n : Nat} (h : sizeB W H = true) : picB W H n = ((n : Int) == W * H) := by unfold picB; rw [h, Bool.true_and]; rfl
theorem picB_out {W H : Int} {n : Nat} (h : picB W H n = true) : sizeB W H = true ∧ (n : Int) = W * H := by
  unfold picB at h
  rw [Bool.and_eq_true] at h
  exact ⟨h.1, of_decide_eq_true h.2⟩
theorem picB_len {W H : Int} {n : Nat} (h : picB W H n = true) : 1 ≤ n ∧ n ≤ 4096 := by
  obtain ⟨a, b⟩ := picB_out h
  have := area_bd a
  omega

end Go.Proofs.YtneegcnidoopmaaDoor
