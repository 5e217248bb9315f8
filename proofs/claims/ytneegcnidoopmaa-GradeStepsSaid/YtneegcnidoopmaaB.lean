/- Contracts of package grade's curves and of their reference: whether a curve may be, how high it is, whether it rises. Conditions: the slice's pins lie where it says. -/
import Derived.Test.YtneegcnidoopmaaA
namespace Go.Proofs.Ytneegcnidoopmaa
open Go.RowKit

/-- n pins lie behind A: their places X, their heights Y. -/
def Cells2 (w : World) (A : Option Addr) (n : Nat) (X Y : Nat → Int) : Prop :=
  0 < n → ∃ b off, A = some ⟨b, off, none⟩ ∧ ∀ i, i < n → w.cell? ⟨b, off + i * 2, none⟩ = some (.int .i64 (X i)) ∧ w.cell? ⟨b, off + i * 2 + 1, none⟩ = some (.int .i64 (Y i))
theorem Cells2.below {w w1 : World} {A : Option Addr} {n : Nat} {X Y : Nat → Int} (h : Cells2 w A n X Y) (hb : Below w.heap.size w w1) : Cells2 w1 A n X Y := by
  intro hn
  obtain ⟨b, off, e, hc⟩ := h hn
  exact ⟨b, off, e, fun i hi => ⟨cell_later hb (hc i hi).1, cell_later hb (hc i hi).2⟩⟩
theorem Cells2.ext {w : World} {A : Option Addr} {n : Nat} {X Y : Nat → Int} (h : Cells2 w A n X Y) (x : Ext w) : Cells2 x.val A n X Y := h.below x.below

set_option maxHeartbeats 400000 in
/-- grade.between. -/
theorem between_any (ax ay bx by_ x : Int) (w : World) (h1 : -16777216 ≤ ax) (h2 : ax ≤ 16777216) (h3 : -16777216 ≤ ay) (h4 : ay ≤ 16777216)
    (h5 : -16777216 ≤ bx) (h6 : bx ≤ 16777216) (h7 : -16777216 ≤ by_) (h8 : by_ ≤ 16777216) (h9 : ax < bx) (h10 : ax ≤ x) (h11 : x ≤ bx) :
    Calls Try.prog 57 #[.agg #[.int .i64 ax, .int .i64 ay], .agg #[.int .i64 bx, .int .i64 by_], .int .i64 x] w fun e w' => e = .returned (.int .i64 (lineAt ax ay bx by_ x)) ∧ Grew w w' := by
  have b := abs_mul_le (a := by_ - ay) (b := x - ax) (A := 33554432) (B := 33554432) (by omega) (by omega) (by omega) (by omega)
  have b1 : -1125899906842624 ≤ (by_ - ay) * (x - ax) := b.1
  have b2 : (by_ - ay) * (x - ax) ≤ 1125899906842624 := b.2
  have eq : wrap64 ((by_ - ay) * (x - ax)) = (by_ - ay) * (x - ax) := IntWalk.wrap64_in _ ⟨by omega, by omega⟩
  have c0 := tdiv_bd (n := (by_ - ay) * (x - ax)) (d := bx - ax) (B := 1125899906842624) (by omega) b1 b2 (by omega)
  have c1 := c0.1
  have c2 := c0.2
  by_cases t : ((by_ - ay) * (x - ax)).tmod (bx - ax) < 0
  · have f := tdiv_floor_neg (n := (by_ - ay) * (x - ax)) (d := bx - ax) (by omega) t
    have F := Lib.hid f
    clear f b c0
    go_enter Try.func57, Try.ntmps57
    go_wp2
    refine wp_region_ext (by kernel_rfl) (by kernel_rfl) ?_
    repeat (go_big_quiet_step (fail))
    refine wpQuiet_nil ?_
    rintro _ ⟨x1, rfl⟩
    go_wp2
    go_ret
    exact ⟨by unfold lineAt; rw [← F.out]; rfl, Grew.of (by repeat (first | assumption | exact gr_refl _ | refine gr_alloc ?_ _ | refine gr_drew ?_ | refine gr_drewN ?_ _ | refine gr_ext ?_ _ | (refine gr_set ?_ ?_ _; rotate_left; (simp <;> omega))))⟩
  · have f := tdiv_floor_pos (n := (by_ - ay) * (x - ax)) (d := bx - ax) (by omega) (by omega)
    have F := Lib.hid f
    clear f b c0
    go_enter Try.func57, Try.ntmps57
    go_wp2
    refine wp_region_ext (by kernel_rfl) (by kernel_rfl) ?_
    repeat (go_big_quiet_step (fail))
    refine wpQuiet_nil ?_
    rintro _ ⟨x1, rfl⟩
    go_wp2
    go_ret
    exact ⟨by unfold lineAt; rw [← F.out]; rfl, Grew.of (by repeat (first | assumption | exact gr_refl _ | refine gr_alloc ?_ _ | refine gr_drew ?_ | refine gr_drewN ?_ _ | refine gr_ext ?_ _ | (refine gr_set ?_ ?_ _; rotate_left; (simp <;> omega))))⟩
end Go.Proofs.Ytneegcnidoopmaa
