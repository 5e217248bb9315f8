/- Sheets: lights in a row; contracts of (film.Sheet).Right, ref18.RightSheet, law18.ToSheet, law18.FromSheet, ref18.SameSheet. Conditions: the lights lie behind the slice. -/
import Derived.Test.YtneegcnidoopmaaDoorSy
import Derived.Test.YtneegcnidoopmaaDoorJ
import Derived.Test.YtneegcnidoopmaaDoorR
import Derived.Test.YtneegcnidoopmaaDoorQe
import Derived.Test.YtneegcnidoopmaaDoorEq
namespace Go.Proofs.YtneegcnidoopmaaDoor
open Go.RowKit

/-- n lights lie behind A. -/
def CellsH (w : World) (A : Option Addr) (n : Nat) (R G B : Nat → Int) : Prop :=
  0 < n → ∃ b off, A = some ⟨b, off, none⟩ ∧ ∀ i, i < n → w.cell? ⟨b, off + i * 3, none⟩ = some (.int .i64 (R i)) ∧ w.cell? ⟨b, off + i * 3 + 1, none⟩ = some (.int .i64 (G i)) ∧ w.cell? ⟨b, off + i * 3 + 2, none⟩ = some (.int .i64 (B i))
theorem CellsH.below {w w1 : World} {A : Option Addr} {n : Nat} {R G B : Nat → Int} (h : CellsH w A n R G B) (hb : Below w.heap.size w w1) : CellsH w1 A n R G B := by
  intro hn
  obtain ⟨b, off, e, hc⟩ := h hn
  exact ⟨b, off, e, fun i hi => ⟨cell_later hb (hc i hi).1, cell_later hb (hc i hi).2.1, cell_later hb (hc i hi).2.2⟩⟩
theorem CellsH.ext {w : World} {A : Option Addr} {n : Nat} {R G B : Nat → Int} (h : CellsH w A n R G B) (x : Ext w) : CellsH x.val A n R G B := h.below x.below
/-- A light's cells. -/
def hueC (R G B : Nat → Int) (i : Nat) : List Value := [.int .i64 (R i), .int .i64 (G i), .int .i64 (B i)]
theorem Own.nils {w : World} {base T sz : Nat} {A : Option Addr} {n cap : Nat} {els : List (List Value)} (h : Own w base T sz (.slice A n cap) els) (hA : A = none) : n = 0 ∧ cap = 0 := by
  rcases h.row.2 with ⟨e, _⟩ | ⟨g, cap', cur, e, _⟩
  · injection e with e1 e2 e3; exact ⟨e2, e3⟩
  · injection e with e1 e2 e3; rw [hA] at e1; cases e1
theorem Own.hues {w : World} {base T : Nat} {v : Value} {n : Nat} {R G B : Nat → Int} (h : Own w base T 3 v ((List.range n).map (hueC R G B))) : ∃ A cap, v = .slice A n cap ∧ n ≤ cap ∧ CellsH w A n R G B := by
  obtain ⟨A, cap, rfl, hc, _, hx⟩ := h.cells
  refine ⟨A, cap, by simp, by simpa using hc, fun hn => ?_⟩
  obtain ⟨b, rfl, _, _, _, hcell⟩ := hx (by simpa using hn)
  refine ⟨b, 0, rfl, fun i hi => ?_⟩
  have c0 := hcell i 0 (by simpa using hi) (by omega)
  have c1 := hcell i 1 (by simpa using hi) (by omega)
  have c2 := hcell i 2 (by simpa using hi) (by omega)
  simp [hi, hueC] at c0 c1 c2
  exact ⟨by simpa using c0, by simpa using c1, by simpa using c2⟩
theorem hueC_congr {R G B R' G' B' : Nat → Int} {n : Nat} (h : ∀ i, i < n → R i = R' i ∧ G i = G' i ∧ B i = B' i) : (List.range n).map (hueC R G B) = (List.range n).map (hueC R' G' B') := by
  apply List.map_congr_left
  intro i hi
  obtain ⟨a, b, c⟩ := h i (List.mem_range.1 hi)
  unfold hueC
  rw [a, b, c]
theorem CellsH.congr {w : World} {A : Option Addr} {n : Nat} {R G B R' G' B' : Nat → Int} (h : CellsH w A n R G B) (e : ∀ i, i < n → R i = R' i ∧ G i = G' i ∧ B i = B' i) : CellsH w A n R' G' B' := by
  intro hn
  obtain ⟨b, off, ha, hc⟩ := h hn
  refine ⟨b, off, ha, fun i hi => ?_⟩
  obtain ⟨a1, a2, a3⟩ := e i hi
  rw [← a1, ← a2, ← a3]
  exact hc i hi

set_option maxHeartbeats 400000 in
theorem sheet_right_any (W H : Int) (A : Option Addr) (n cap : Nat) (w : World) :
    Calls Tryd.prog 21 #[.agg #[.int .i64 W, .int .i64 H, .slice A n cap]] w fun e w' => e = .returned (.bool (picB W H n)) ∧ Grew w w' := by
  cases hs : sizeB W H with
  | false =>
    have E := Lib.hid (picB_bad (n := n) hs)
    have S := Lib.hid hs
    clear hs
    go_enter Tryd.func21, Tryd.ntmps21
    go_wp2
    refine wp_region_ext (by kernel_rfl) (by kernel_rfl) ?_
    repeat (go_big_quiet_step ((first | (go_at_call 27; exact Calls.grew _ (size_right_f _ _ _ S.out)))))
    refine wpQuiet_nil ?_
    rintro _ ⟨x1, rfl⟩
    go_wp2
    go_ret
    exact ⟨ret_b E.out.symm, Grew.of (by repeat (first | assumption | exact gr_refl _ | refine gr_alloc ?_ _ | refine gr_drew ?_ | refine gr_drewN ?_ _ | refine gr_ext ?_ _ | (refine gr_set ?_ ?_ _; rotate_left; (simp <;> omega))))⟩
  | true =>
    have E := Lib.hid (picB_eq (n := n) hs)
    have S := Lib.hid hs
    clear hs
    go_enter Tryd.func21, Tryd.ntmps21
    go_wp2
    refine wp_region_ext (by kernel_rfl) (by kernel_rfl) ?_
    repeat (go_big_quiet_step ((first | (go_at_call 27; exact Calls.grew _ (size_right_t _ _ _ S.out)) | (go_at_call 26; exact Calls.grew _ (pixels_any W H _ S.out)))))
    refine wpQuiet_nil ?_
    rintro _ ⟨x1, rfl⟩
    go_wp2
    go_ret
    exact ⟨ret_b E.out.symm, Grew.of (by repeat (first | assumption | exact gr_refl _ | refine gr_alloc ?_ _ | refine gr_drew ?_ | refine gr_drewN ?_ _ | refine gr_ext ?_ _ | (refine gr_set ?_ ?_ _; rotate_left; (simp <;> omega))))⟩
set_option maxHeartbeats 400000 in
theorem rsize_right_any (W H : Int) (w : World) : Calls Tryd.prog 33 #[.int .i64 W, .int .i64 H] w fun e w' => e = .returned (.bool (sizeB W H)) ∧ w = w' := by
  by_cases h1 : 1 ≤ W
  · by_cases h2 : W ≤ 64
    · by_cases h3 : 1 ≤ H
      · by_cases h4 : H ≤ 64
        · have E := Lib.hid (sizeB_t h1 h2 h3 h4)
          go_enter Tryd.func33, Tryd.ntmps33
          go_wp2
          go_ret
          exact ⟨ret_b E.out.symm, rfl⟩
        · have E := Lib.hid (sizeB_f (W := W) (H := H) (fun h => by omega))
          have d4 : decide (H ≤ 64) = false := decide_eq_false h4
          go_enter Tryd.func33, Tryd.ntmps33
          go_wp2
          go_ret
          exact ⟨ret_b E.out.symm, rfl⟩
      · have E := Lib.hid (sizeB_f (W := W) (H := H) (fun h => by omega))
        have d3 : decide (1 ≤ H) = false := decide_eq_false h3
        go_enter Tryd.func33, Tryd.ntmps33
        go_wp2
        go_ret
        exact ⟨ret_b E.out.symm, rfl⟩
    · have E := Lib.hid (sizeB_f (W := W) (H := H) (fun h => by omega))
      have d2 : decide (W ≤ 64) = false := decide_eq_false h2
      go_enter Tryd.func33, Tryd.ntmps33
      go_wp2
      go_ret
      exact ⟨ret_b E.out.symm, rfl⟩
  · have E := Lib.hid (sizeB_f (W := W) (H := H) (fun h => by omega))
    have d1 : decide (1 ≤ W) = false := decide_eq_false h1
    go_enter Tryd.func33, Tryd.ntmps33
    go_wp2
    go_ret
    exact ⟨ret_b E.out.symm, rfl⟩
set_option maxHeartbeats 400000 in
theorem rsheet_right_any (W H : Int) (A : Option Addr) (n cap : Nat) (w : World) :
    Calls Tryd.prog 24 #[.agg #[.int .i64 W, .int .i64 H, .slice A n cap]] w fun e w' => e = .returned (.bool (picB W H n)) ∧ Grew w w' := by
  cases hs : sizeB W H with
  | false =>
    have E := Lib.hid (picB_bad (n := n) hs)
    have S := Lib.hid hs
    clear hs
    go_enter Tryd.func24, Tryd.ntmps24
    go_wp2_with (go_at_call 33; refine (rsize_right_any _ _ _).mono ?_; rintro e w' ⟨rfl, rfl⟩; rw [S.out])
    go_ret
    exact ⟨ret_b E.out.symm, Grew.of (by repeat (first | assumption | exact gr_refl _ | refine gr_alloc ?_ _ | refine gr_drew ?_ | refine gr_drewN ?_ _ | refine gr_ext ?_ _ | (refine gr_set ?_ ?_ _; rotate_left; (simp <;> omega))))⟩
  | true =>
    have E := Lib.hid (picB_eq (n := n) hs)
    have a := area_bd hs
    have a1 := a.1
    have a2 := a.2
    have S := Lib.hid hs
    clear hs a
    go_enter Tryd.func24, Tryd.ntmps24
    go_wp2_with (go_at_call 33; refine (rsize_right_any _ _ _).mono ?_; rintro e w' ⟨rfl, rfl⟩; rw [S.out])
    go_ret
    exact ⟨ret_b E.out.symm, Grew.of (by repeat (first | assumption | exact gr_refl _ | refine gr_alloc ?_ _ | refine gr_drew ?_ | refine gr_drewN ?_ _ | refine gr_ext ?_ _ | (refine gr_set ?_ ?_ _; rotate_left; (simp <;> omega))))⟩

set_option maxHeartbeats 1000000 in
/-- Two sheets alike. -/
theorem sheetsame_any (W H : Int) (A A' : Option Addr) (n cap cap' : Nat) (R G B : Nat → Int) (w : World) (hn : n ≤ 1000000) (hc : CellsH w A n R G B) (hc' : CellsH w A' n R G B) :
    Calls Tryd.prog 12 #[.agg #[.int .i64 W, .int .i64 H, .slice A n cap], .agg #[.int .i64 W, .int .i64 H, .slice A' n cap']] w fun e w' => e = .returned (.bool true) ∧ Grew w w' := by
  have HC := Lib.hid hc
  have HC' := Lib.hid hc'
  clear hc hc'
  go_enter Tryd.func12, Tryd.ntmps12
  go_wp2
  go_loopw [5] (fun i wr => ∃ k : Nat, k ≤ n ∧ i = .int .i64 k ∧ Below w.heap.size w wr ∧ Blk wr w.heap.size #[.int .i64 W, .int .i64 H, .slice A n cap] 24 ∧ Blk wr (w.heap.size + 1) #[.int .i64 W, .int .i64 H, .slice A' n cap'] 24) (fun i _ => n - (intOf i).toNat)
  case atStart => exact ⟨0, by omega, rfl, (by repeat (first | assumption | exact gr_refl _ | refine gr_alloc ?_ _ | refine gr_drew ?_ | refine gr_drewN ?_ _ | refine gr_ext ?_ _ | (refine gr_set ?_ ?_ _; rotate_left; (simp <;> omega)))), (by repeat (first | assumption | (refine Blk.at_ _ _ ?_; simp; done) | refine Blk.alloc ?_ _ | refine Blk.drew ?_ | refine Blk.ext ?_ _ | exact Blk.set (by assumption) _ _ | (refine Blk.other ?_ ?_ _; rotate_left; (simp <;> omega)))), (by repeat (first | assumption | (refine Blk.at_ _ _ ?_; simp; done) | refine Blk.alloc ?_ _ | refine Blk.drew ?_ | refine Blk.ext ?_ _ | exact Blk.set (by assumption) _ _ | (refine Blk.other ?_ ?_ _; rotate_left; (simp <;> omega))))⟩
  case round =>
    obtain ⟨k, hk, rfl, hb, h1, h2⟩ := hrel
    have l1 := h1.lt
    have l2 := h2.lt
    have c1 := h1.cell
    have c2 := h2.cell
    have H1 := Lib.hid h1
    have H2 := Lib.hid h2
    clear h1 h2
    by_cases hlt : k < n
    · obtain ⟨b, off, rfl, hcell⟩ := HC.out (by omega)
      obtain ⟨b', off', rfl, hcell'⟩ := HC'.out (by omega)
      obtain ⟨q0, q1, q2⟩ := hcell k hlt
      obtain ⟨p0, p1, p2⟩ := hcell' k hlt
      have d0 := cell_later hb q0
      have d1 := cell_later hb q1
      have d2 := cell_later hb q2
      have e0 := cell_later hb p0
      have e1 := cell_later hb p1
      have e2 := cell_later hb p2
      have lb : b < wr.heap.size := World.block_lt_of_cell? _ _ d0
      have lb' : b' < wr.heap.size := World.block_lt_of_cell? _ _ e0
      have heq := fun wx => run_equalIn_array3 (P := Tryd.prog) wx 9998 54 2 .i64 (R k) (G k) (B k) (R k) (G k) (B k) Tryd.underlying54 Tryd.underlying2 (by kernel_rfl)
      clear hcell hcell' q0 q1 q2 p0 p1 p2
      go_wp2
      refine wp_region_ext (by kernel_rfl) (by kernel_rfl) ?_
      repeat (go_big_quiet_step (fail))
      refine wpQuiet_nil ?_
      rintro _ ⟨x1, rfl⟩
      go_wp2
      go_roundw
      case rel => exact ⟨k + 1, by omega, by go_num, (by repeat (first | assumption | exact gr_refl _ | refine gr_alloc ?_ _ | refine gr_drew ?_ | refine gr_drewN ?_ _ | refine gr_ext ?_ _ | (refine gr_set ?_ ?_ _; rotate_left; (simp <;> omega)))), H1.out.ext x1, H2.out.ext x1⟩
      case measure => simp [intOf]; omega
    · obtain rfl : n = k := by omega
      go_wp2
      go_ret
      exact ⟨rfl, Grew.of (by repeat (first | assumption | exact gr_refl _ | refine gr_alloc ?_ _ | refine gr_drew ?_ | refine gr_drewN ?_ _ | refine gr_ext ?_ _ | (refine gr_set ?_ ?_ _; rotate_left; (simp <;> omega))))⟩
end Go.Proofs.YtneegcnidoopmaaDoor
