/- Contract of law39.awake: the document's examples hold. No conditions. -/
import Derived.Test.YtneegcnidoopmaaG
import Derived.Test.YtneegcnidoopmaaK
namespace Go.Proofs.Ytneegcnidoopmaa
open Go.RowKit

def exX (i : Nat) : Int := if i = 0 then 0 else 65536
def exY (i : Nat) : Int := if i = 0 then 0 else 131072
theorem ex_at : curveAt exX exY 2 32768 = 65536 := by
  have ok : PinsOk exX exY 2 := by
    refine ⟨by omega, by omega, fun i hi => ?_, fun i hi => ?_⟩
    · have : i = 0 ∨ i = 1 := by omega
      rcases this with rfl | rfl <;> decide
    · obtain rfl : i = 0 := by omega
      decide
  have h : held 32768 = 32768 := by decide
  rw [curveAt_hi ok (by rw [h]; decide), h, fromPin_in (by omega) (by decide)]
  decide

set_option maxRecDepth 100000 in
set_option maxHeartbeats 1000000 in
theorem awake39_any (w : World) : Calls Try.prog 10 #[] w fun e w' => e = .returned (.bool true) ∧ Grew w w' := by
  have z : Try.zeroCells39 = tab (fun _ => 0) := by kernel_rfl
  have Z := Lib.hid z
  clear z
  go_enter Try.func10, Try.ntmps10
  go_wp2_with fail
  have hB : Bytes3 (fun _ => 10) (fun _ => 20) (fun _ => 20) 1 := fun i _ => by dsimp only; omega
  refine (spread_any 1 1 _ 1 1 (fun _ => 10) (fun _ => 20) (fun _ => 20) _ (by decide) (fun _ => ⟨_, _, rfl, fun i hi => ?_⟩) hB).mono ?_
  · obtain rfl : i = 0 := by omega
    go_simp
  rintro e w' ⟨rfl, x0, rfl⟩
  have lf : lowF (fun _ => 10) (fun _ => 20) (fun _ => 20) 1 = 10 := by decide
  have hf : highF (fun _ => 10) (fun _ => 20) (fun _ => 20) 1 = 20 := by decide
  rw [lf, hf]
  clear lf hf hB
  go_wp2_with (refine wpList_store_blk (w0 := w) rfl 39 _ _ rfl x0.val.heap.size _ rfl rfl 39 _ (Blk.at_ _ _ rfl) (by kernel_rfl) (by kernel_rfl) (by kernel_rfl) (gr_alloc (gr_below (gr_alloc (gr_alloc (gr_refl w) _) _) x0.below) _) ?_ ?_)
  · have := x0.size_val
    simp at this
    omega
  intro w1 hbl hb1 hg1
  have hx0 := x0.size_val
  simp at hx0
  have hp : Blk x0.val w.heap.size #[.int .i64 0, .int .i64 0, .int .i64 65536, .int .i64 131072] 132 := (by repeat (first | assumption | (refine Blk.at_ _ _ ?_; simp; done) | refine Blk.alloc ?_ _ | refine Blk.drew ?_ | refine Blk.ext ?_ _ | exact Blk.set (by assumption) _ _ | (refine Blk.other ?_ ?_ _; rotate_left; (simp <;> omega))))
  have hp1 : Blk w1 w.heap.size #[.int .i64 0, .int .i64 0, .int .i64 65536, .int .i64 131072] 132 := (hp.alloc _).grown hg1 (by simp; omega)
  have hc2 : Cells2 w1 (some ⟨w.heap.size, 0, none⟩) 2 exX exY := fun _ => ⟨_, 0, rfl, fun i hi => by
    have : i = 0 ∨ i = 1 := by omega
    rcases this with rfl | rfl <;> exact ⟨hp1.cell _, hp1.cell _⟩⟩
  have hcl : ∀ i, i < 256 → w1.cell? ⟨x0.val.heap.size, i, none⟩ = some (.int .u8 (spreadF 10 20 i)) := fun i hi => by rw [hbl.cell, tab_get _ hi]
  have v10 : spreadF 10 20 10 = 0 := by decide
  have v15 : spreadF 10 20 15 = 127 := by decide
  have v20 : spreadF 10 20 20 = 255 := by decide
  have c10 := hcl 10 (by omega)
  have c15 := hcl 15 (by omega)
  have c20 := hcl 20 (by omega)
  rw [v10] at c10
  rw [v15] at c15
  rw [v20] at c20
  have lbx := hbl.lt
  have HE := Lib.hid ex_at
  clear hcl v10 v15 v20 hp hg1
  go_wp2_with (go_at_call 14; refine (at_any _ 2 2 exX exY 32768 _ (by omega) (by omega) hc2).mono ?_; rintro e w' ⟨rfl, x1, rfl⟩; rw [HE.out])
  go_ret
  exact ⟨rfl, Grew.of (by repeat (first | assumption | exact gr_refl _ | refine gr_alloc ?_ _ | refine gr_drew ?_ | refine gr_drewN ?_ _ | refine gr_ext ?_ _ | (refine gr_set ?_ ?_ _; rotate_left; (simp <;> omega))))⟩
end Go.Proofs.Ytneegcnidoopmaa
