/- Contract of law39.to: a curve as the program's. Conditions: the pins lie behind the slice, and are no more than a million. -/
import Derived.Test.YtneegcnidoopmaaB
import Derived.Test.YtneegcnidoopmaaR
namespace Go.Proofs.Ytneegcnidoopmaa
open Go.RowKit

/-- A pin's cells. -/
def pinC (X Y : Nat → Int) (i : Nat) : List Value := [.int .i64 (X i), .int .i64 (Y i)]
theorem Own.pins {w : World} {base T : Nat} {v : Value} {n : Nat} {X Y : Nat → Int} (h : Own w base T 2 v ((List.range n).map (pinC X Y))) : ∃ A cap, v = .slice A n cap ∧ n ≤ cap ∧ Cells2 w A n X Y := by
  obtain ⟨A, cap, rfl, hc, _, hx⟩ := h.cells
  refine ⟨A, cap, by simp, by simpa using hc, fun hn => ?_⟩
  obtain ⟨b, rfl, _, _, _, hcell⟩ := hx (by simpa using hn)
  refine ⟨b, 0, rfl, fun i hi => ?_⟩
  have c0 := hcell i 0 (by simpa using hi) (by omega)
  have c1 := hcell i 1 (by simpa using hi) (by omega)
  simp [hi, pinC] at c0 c1
  exact ⟨by simpa using c0, by simpa using c1⟩

set_option maxHeartbeats 1000000 in
theorem to_any (A : Option Addr) (n cap : Nat) (X Y : Nat → Int) (w : World) (hn : n ≤ 1000000) (hc : Cells2 w A n X Y) :
    Calls Try.prog 11 #[.slice A n cap] w (RetOwn w 132 2 ((List.range n).map (pinC X Y))) := by
  have HC := Lib.hid hc
  clear hc
  go_enter Try.func11, Try.ntmps11
  go_wp2
  go_loopw [3, 8] (fun v i wr => ∃ k : Nat, k ≤ n ∧ i = .int .i64 k ∧ Own wr w.heap.size 132 2 v ((List.range k).map (pinC X Y)) ∧ Below w.heap.size w wr) (fun _ i _ => n - (intOf i).toNat)
  case atStart => exact ⟨0, Nat.zero_le _, rfl, Own.nil _ _ _ _, Below.refl _ _⟩
  case round =>
    obtain ⟨k, hk, rfl, ho, hb⟩ := hrel
    by_cases hlt : k < n
    · obtain ⟨b, off, rfl, hcell⟩ := HC.out (by omega)
      have cx : wr.cell? ⟨b, off + k * 2, none⟩ = some (.int .i64 (X k)) := cell_later hb (hcell k hlt).1
      have cy : wr.cell? ⟨b, off + k * 2 + 1, none⟩ = some (.int .i64 (Y k)) := cell_later hb (hcell k hlt).2
      have hsz := hb.size
      have HO := Lib.hid ho
      have HB := Lib.hid hb
      clear hcell ho hb
      go_wp2_with (at_builtin; refine own_append1 (w0 := w) rfl _ _ 25 rfl w.heap.size 132 (.agg #[.int .i64 0, .int .i64 0]) 2 16 Try.underlying25 (by kernel_rfl) rfl (by omega) _ _ rfl ((HO.out.alloc _).alloc _) (wr.heap.size + 1) (pinC X Y k) (by simp [go_sem]) (Blk.at_ _ _ (by simp)) rfl (by intro u hu; simp [pinC] at hu; rcases hu with rfl | rfl <;> rfl) (by simp; omega) (by omega) (gr_alloc (gr_alloc HB.out _) _) (Nat.le_refl _) (by simp; omega) ?_)
      intro v' w1 ho1 hb1 _
      rw [← map_range_succ] at ho1
      have HO1 := Lib.hid ho1
      have HB1 := Lib.hid hb1
      clear ho1 hb1
      go_wp2
      go_roundw
      case rel => exact ⟨k + 1, by omega, by go_num, HO1.out, HB1.out⟩
      case measure => simp [intOf]; omega
    · obtain rfl : k = n := by omega
      have HO := Lib.hid ho
      have HB := Lib.hid hb
      clear ho hb
      go_wp2
      go_ret
      exact ⟨_, rfl, HO.out, HB.out⟩
end Go.Proofs.Ytneegcnidoopmaa
