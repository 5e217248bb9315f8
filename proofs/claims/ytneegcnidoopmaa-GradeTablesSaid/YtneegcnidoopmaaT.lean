/- Contracts of ref21.Right, law21.From, ref21.Same: pictures as the document's. Conditions: the dots lie behind the slices. -/
import Derived.Test.YtneegcnidoopmaaP
import Derived.Test.YtneegcnidoopmaaEq
namespace Go.Proofs.Ytneegcnidoopmaa
open Go.RowKit

set_option maxHeartbeats 400000 in
theorem rsize_any (W H : Int) (w : World) : Calls Try.prog 60 #[.int .i64 W, .int .i64 H] w fun e w' => e = .returned (.bool (sizeB W H)) ∧ w = w' := by
  by_cases h1 : 1 ≤ W
  · by_cases h2 : W ≤ 64
    · by_cases h3 : 1 ≤ H
      · by_cases h4 : H ≤ 64
        · have E := Lib.hid (sizeB_t h1 h2 h3 h4)
          go_enter Try.func60, Try.ntmps60
          go_wp2
          go_ret
          exact ⟨ret_b E.out.symm, rfl⟩
        · have E := Lib.hid (sizeB_f (W := W) (H := H) (fun h => by omega))
          have d4 : decide (H ≤ 64) = false := decide_eq_false h4
          go_enter Try.func60, Try.ntmps60
          go_wp2
          go_ret
          exact ⟨ret_b E.out.symm, rfl⟩
      · have E := Lib.hid (sizeB_f (W := W) (H := H) (fun h => by omega))
        have d3 : decide (1 ≤ H) = false := decide_eq_false h3
        go_enter Try.func60, Try.ntmps60
        go_wp2
        go_ret
        exact ⟨ret_b E.out.symm, rfl⟩
    · have E := Lib.hid (sizeB_f (W := W) (H := H) (fun h => by omega))
      have d2 : decide (W ≤ 64) = false := decide_eq_false h2
      go_enter Try.func60, Try.ntmps60
      go_wp2
      go_ret
      exact ⟨ret_b E.out.symm, rfl⟩
  · have E := Lib.hid (sizeB_f (W := W) (H := H) (fun h => by omega))
    have d1 : decide (1 ≤ W) = false := decide_eq_false h1
    go_enter Try.func60, Try.ntmps60
    go_wp2
    go_ret
    exact ⟨ret_b E.out.symm, rfl⟩

set_option maxHeartbeats 400000 in
theorem rpic_right_any (W H : Int) (A : Option Addr) (n cap : Nat) (w : World) :
    Calls Try.prog 21 #[.agg #[.int .i64 W, .int .i64 H, .slice A n cap]] w fun e w' => e = .returned (.bool (picB W H n)) ∧ Grew w w' := by
  cases hs : sizeB W H with
  | false =>
    have E := Lib.hid (picB_bad (n := n) hs)
    have S := Lib.hid hs
    clear hs
    go_enter Try.func21, Try.ntmps21
    go_wp2_with (go_at_call 60; refine (rsize_any _ _ _).mono ?_; rintro e w' ⟨rfl, rfl⟩; rw [S.out])
    go_ret
    exact ⟨ret_b E.out.symm, Grew.of (by repeat (first | assumption | exact gr_refl _ | refine gr_alloc ?_ _ | refine gr_drew ?_ | refine gr_drewN ?_ _ | refine gr_ext ?_ _ | (refine gr_set ?_ ?_ _; rotate_left; (simp <;> omega))))⟩
  | true =>
    have E := Lib.hid (picB_eq (n := n) hs)
    have a := area_bd hs
    have a1 := a.1
    have a2 := a.2
    have S := Lib.hid hs
    clear hs a
    go_enter Try.func21, Try.ntmps21
    go_wp2_with (go_at_call 60; refine (rsize_any _ _ _).mono ?_; rintro e w' ⟨rfl, rfl⟩; rw [S.out])
    go_ret
    exact ⟨ret_b E.out.symm, Grew.of (by repeat (first | assumption | exact gr_refl _ | refine gr_alloc ?_ _ | refine gr_drew ?_ | refine gr_drewN ?_ _ | refine gr_ext ?_ _ | (refine gr_set ?_ ?_ _; rotate_left; (simp <;> omega))))⟩

theorem picfrom_any (W H : Int) (A : Option Addr) (n cap : Nat) (w : World) :
    Calls Try.prog 25 #[.agg #[.int .i64 W, .int .i64 H, .slice A n cap]] w fun e w' => e = .returned (.agg #[.int .i64 W, .int .i64 H, .slice A n cap]) ∧ Grew w w' := by
  go_enter Try.func25, Try.ntmps25
  go_wp2
  exact bodyPost_ret (v := .agg #[.int .i64 W, .int .i64 H, .slice A n cap]) (by simp [results, Try.results25, go_sem]) rfl ⟨rfl, Grew.of (by repeat (first | assumption | exact gr_refl _ | refine gr_alloc ?_ _ | refine gr_drew ?_ | refine gr_drewN ?_ _ | refine gr_ext ?_ _ | (refine gr_set ?_ ?_ _; rotate_left; (simp <;> omega))))⟩

set_option maxHeartbeats 1000000 in
/-- Two pictures alike. -/
theorem picsame_any (W H : Int) (A A' : Option Addr) (n cap cap' : Nat) (R G B : Nat → Int) (w : World) (hn : n ≤ 1000000) (hc : Cells3 w A n R G B) (hc' : Cells3 w A' n R G B) :
    Calls Try.prog 24 #[.agg #[.int .i64 W, .int .i64 H, .slice A n cap], .agg #[.int .i64 W, .int .i64 H, .slice A' n cap']] w fun e w' => e = .returned (.bool true) ∧ Grew w w' := by
  have HC := Lib.hid hc
  have HC' := Lib.hid hc'
  clear hc hc'
  go_enter Try.func24, Try.ntmps24
  go_wp2
  go_loopw [5] (fun i wr => ∃ k : Nat, k ≤ n ∧ i = .int .i64 k ∧ Below w.heap.size w wr ∧ Blk wr w.heap.size #[.int .i64 W, .int .i64 H, .slice A n cap] 36 ∧ Blk wr (w.heap.size + 1) #[.int .i64 W, .int .i64 H, .slice A' n cap'] 36) (fun i _ => n - (intOf i).toNat)
  case atStart => exact ⟨0, by omega, rfl, (by repeat (first | assumption | exact gr_refl _ | refine gr_alloc ?_ _ | refine gr_drew ?_ | refine gr_drewN ?_ _ | refine gr_ext ?_ _ | (refine gr_set ?_ ?_ _; rotate_left; (simp <;> omega)))), (by repeat (first | assumption | (refine Blk.at_ _ _ ?_; simp; done) | refine Blk.alloc ?_ _ | refine Blk.drew ?_ | refine Blk.ext ?_ _ | exact Blk.set (by assumption) _ _ | (refine Blk.other ?_ ?_ _; rotate_left; (simp <;> omega)))), (by repeat (first | assumption | (refine Blk.at_ _ _ ?_; simp; done) | refine Blk.alloc ?_ _ | refine Blk.drew ?_ | refine Blk.ext ?_ _ | exact Blk.set (by assumption) _ _ | (refine Blk.other ?_ ?_ _; rotate_left; (simp <;> omega))))⟩
  case round =>
    obtain ⟨k, hk, rfl, hb, h1, h2⟩ := hrel
    have l1 := h1.lt
    have l2 := h2.lt
    have c1 := h1.cell
    have c2 := h2.cell
    have H1 := Lib.hid h1
    have H2 := Lib.hid h2
    clear h1 h2
    by_cases hlt : k < n
    · obtain ⟨b, off, rfl, hcell⟩ := HC.out (by omega)
      obtain ⟨b', off', rfl, hcell'⟩ := HC'.out (by omega)
      obtain ⟨q0, q1, q2⟩ := hcell k hlt
      obtain ⟨p0, p1, p2⟩ := hcell' k hlt
      have d0 := cell_later hb q0
      have d1 := cell_later hb q1
      have d2 := cell_later hb q2
      have e0 := cell_later hb p0
      have e1 := cell_later hb p1
      have e2 := cell_later hb p2
      have lb : b < wr.heap.size := World.block_lt_of_cell? _ _ d0
      have lb' : b' < wr.heap.size := World.block_lt_of_cell? _ _ e0
      have heq := fun wx => run_equalIn_array3 (P := Try.prog) wx 9998 133 5 .u8 (R k) (G k) (B k) (R k) (G k) (B k) Try.underlying133 Try.underlying5 (by kernel_rfl)
      clear hcell hcell' q0 q1 q2 p0 p1 p2
      go_wp2
      refine wp_region_ext (by kernel_rfl) (by kernel_rfl) ?_
      repeat (go_big_quiet_step (fail))
      refine wpQuiet_nil ?_
      rintro _ ⟨x1, rfl⟩
      go_wp2
      go_roundw
      case rel => exact ⟨k + 1, by omega, by go_num, (by repeat (first | assumption | exact gr_refl _ | refine gr_alloc ?_ _ | refine gr_drew ?_ | refine gr_drewN ?_ _ | refine gr_ext ?_ _ | (refine gr_set ?_ ?_ _; rotate_left; (simp <;> omega)))), H1.out.ext x1, H2.out.ext x1⟩
      case measure => simp [intOf]; omega
    · obtain rfl : n = k := by omega
      go_wp2
      go_ret
      exact ⟨rfl, Grew.of (by repeat (first | assumption | exact gr_refl _ | refine gr_alloc ?_ _ | refine gr_drew ?_ | refine gr_drewN ?_ _ | refine gr_ext ?_ _ | (refine gr_set ?_ ?_ _; rotate_left; (simp <;> omega))))⟩
end Go.Proofs.Ytneegcnidoopmaa
