/- Contracts of grade.Negative, (grade.Table).Then, grade.Same. No conditions but that a table's entries are bytes. -/
import Derived.Test.YtneegcnidoopmaaI
import Derived.Test.YtneegcnidoopmaaS2
namespace Go.Proofs.Ytneegcnidoopmaa
open Go.RowKit

set_option maxRecDepth 100000 in
set_option maxHeartbeats 1000000 in
theorem negative_any (w : World) : Calls Try.prog 19 #[] w fun e w' => e = .returned (.agg (tab (fun n => 255 - n))) ∧ Grew w w' := by
  have z : Try.zeroCells39 = tab (fun _ => 0) := by kernel_rfl
  have Z := Lib.hid z
  clear z
  go_enter Try.func19, Try.ntmps19
  go_wp2
  go_loopw [3] (fun i wr => ∃ k : Nat, k ≤ 256 ∧ i = .int .i64 k ∧ Below w.heap.size w wr ∧ Blk wr w.heap.size Try.zeroCells39 39 ∧ Blk wr (w.heap.size + 1) (tab (done (fun n => 255 - n) k)) 39) (fun i _ => 256 - (intOf i).toNat)
  case atStart =>
    have e0 : tab (done (fun n => 255 - n) 0) = Try.zeroCells39 := by rw [Z.out]; exact tab_congr fun i _ => if_neg (by omega)
    exact ⟨0, by omega, rfl, (by repeat (first | assumption | exact gr_refl _ | refine gr_alloc ?_ _ | refine gr_drew ?_ | refine gr_drewN ?_ _ | refine gr_ext ?_ _ | (refine gr_set ?_ ?_ _; rotate_left; (simp <;> omega)))), (by repeat (first | assumption | (refine Blk.at_ _ _ ?_; simp; done) | refine Blk.alloc ?_ _ | refine Blk.drew ?_ | refine Blk.ext ?_ _ | exact Blk.set (by assumption) _ _ | (refine Blk.other ?_ ?_ _; rotate_left; (simp <;> omega)))), by rw [e0]; exact (by repeat (first | assumption | (refine Blk.at_ _ _ ?_; simp; done) | refine Blk.alloc ?_ _ | refine Blk.drew ?_ | refine Blk.ext ?_ _ | exact Blk.set (by assumption) _ _ | (refine Blk.other ?_ ?_ _; rotate_left; (simp <;> omega))))⟩
  case round =>
    obtain ⟨k, hk, rfl, hb, hz, ht⟩ := hrel
    have lz := hz.lt
    have lt := ht.lt
    have HZ := Lib.hid hz
    have HT := Lib.hid ht
    have ft := ht.frozen
    clear hz ht
    by_cases hkk : k < 256
    · have ct : wr.cell? ⟨w.heap.size + 1, k, none⟩ = some (.int .u8 (done (fun n => 255 - n) k k)) := by rw [HT.out.cell, tab_get _ hkk]
      have ev : ∀ v, v = 255 - (k : Int) → Blk (wr.setCell ⟨w.heap.size + 1, k, none⟩ (.int .u8 v)) (w.heap.size + 1) (tab (done (fun n => 255 - n) (k + 1))) 39 := by
        rintro v rfl
        have := HT.out.set k (.int .u8 (255 - (k : Int)))
        rwa [done_set (fun n => 255 - (n : Int)) k] at this
      have EV := Lib.hid ev
      clear ev
      generalize done (fun n => 255 - (n : Int)) k k = old at *
      go_wp2
      go_roundw
      case rel => exact ⟨k + 1, by omega, by go_num, (by repeat (first | assumption | exact gr_refl _ | refine gr_alloc ?_ _ | refine gr_drew ?_ | refine gr_drewN ?_ _ | refine gr_ext ?_ _ | (refine gr_set ?_ ?_ _; rotate_left; (simp <;> omega)))), by have := HZ.out; exact (by repeat (first | assumption | (refine Blk.at_ _ _ ?_; simp; done) | refine Blk.alloc ?_ _ | refine Blk.drew ?_ | refine Blk.ext ?_ _ | exact Blk.set (by assumption) _ _ | (refine Blk.other ?_ ?_ _; rotate_left; (simp <;> omega)))), EV.out _ (by omega)⟩
      case measure => simp [intOf]; omega
    · obtain rfl : k = 256 := by omega
      go_wp2_with (first | (refine wpList_load_row rfl 39 _ rfl (w.heap.size + 1) rfl 39 _ (0, 0) _ HT.out.heap Try.underlying39 rfl (by kernel_rfl) ?_) | (refine wpList_store_row rfl 39 _ _ rfl w.heap.size _ rfl rfl 39 _ HZ.out.heap (by kernel_rfl) (by kernel_rfl) (by kernel_rfl) ?_))
      have hz := HZ.out
      refine bodyPost_ret (results_cell_blk rfl _ _ w.heap.size 39 _ _ rfl (hz.setRow _) Try.underlying39 rfl (by kernel_rfl)) rfl ⟨?_, Grew.of (gr_setRow hb (by omega) _)⟩
      rw [done_all]

set_option maxRecDepth 100000 in
set_option maxHeartbeats 1000000 in
theorem then_any (f g : Nat → Int) (hf : ∀ i, i < 256 → 0 ≤ f i ∧ f i ≤ 255) (w : World) : Calls Try.prog 20 #[.agg (tab f), .agg (tab g)] w fun e w' => e = .returned (.agg (tab (fun n => g (f n).toNat))) ∧ Grew w w' := by
  have z : Try.zeroCells39 = tab (fun _ => 0) := by kernel_rfl
  have Z := Lib.hid z
  have HF := Lib.hid hf
  clear z hf
  go_enter Try.func20, Try.ntmps20
  go_wp2
  go_loopw [7] (fun i wr => ∃ k : Nat, k ≤ 256 ∧ i = .int .i64 k ∧ Below w.heap.size w wr ∧ Blk wr w.heap.size (tab f) 39 ∧ Blk wr (w.heap.size + 1) (tab g) 39 ∧ Blk wr (w.heap.size + 1 + 1) Try.zeroCells39 39 ∧ Blk wr (w.heap.size + 1 + 1 + 1) (tab (done (fun n => g (f n).toNat) k)) 39) (fun i _ => 256 - (intOf i).toNat)
  case atStart =>
    have e0 : tab (done (fun n => g (f n).toNat) 0) = Try.zeroCells39 := by rw [Z.out]; exact tab_congr fun i _ => if_neg (by omega)
    exact ⟨0, by omega, rfl, (by repeat (first | assumption | exact gr_refl _ | refine gr_alloc ?_ _ | refine gr_drew ?_ | refine gr_drewN ?_ _ | refine gr_ext ?_ _ | (refine gr_set ?_ ?_ _; rotate_left; (simp <;> omega)))), (by repeat (first | assumption | (refine Blk.at_ _ _ ?_; simp; done) | refine Blk.alloc ?_ _ | refine Blk.drew ?_ | refine Blk.ext ?_ _ | exact Blk.set (by assumption) _ _ | (refine Blk.other ?_ ?_ _; rotate_left; (simp <;> omega)))), (by repeat (first | assumption | (refine Blk.at_ _ _ ?_; simp; done) | refine Blk.alloc ?_ _ | refine Blk.drew ?_ | refine Blk.ext ?_ _ | exact Blk.set (by assumption) _ _ | (refine Blk.other ?_ ?_ _; rotate_left; (simp <;> omega)))), (by repeat (first | assumption | (refine Blk.at_ _ _ ?_; simp; done) | refine Blk.alloc ?_ _ | refine Blk.drew ?_ | refine Blk.ext ?_ _ | exact Blk.set (by assumption) _ _ | (refine Blk.other ?_ ?_ _; rotate_left; (simp <;> omega)))), by rw [e0]; exact (by repeat (first | assumption | (refine Blk.at_ _ _ ?_; simp; done) | refine Blk.alloc ?_ _ | refine Blk.drew ?_ | refine Blk.ext ?_ _ | exact Blk.set (by assumption) _ _ | (refine Blk.other ?_ ?_ _; rotate_left; (simp <;> omega))))⟩
  case round =>
    obtain ⟨k, hk, rfl, hb, hfb, hgb, hz, ht⟩ := hrel
    have lz := hz.lt
    have lt := ht.lt
    have HZ := Lib.hid hz
    have HT := Lib.hid ht
    have HFB := Lib.hid hfb
    have HGB := Lib.hid hgb
    have ft := ht.frozen
    clear hz ht hfb hgb
    by_cases hkk : k < 256
    · have hfk := HF.out k hkk
      have cf : wr.cell? ⟨w.heap.size, k, none⟩ = some (.int .u8 (f k)) := by rw [HFB.out.cell, tab_get _ hkk]
      obtain ⟨q, hq⟩ : ∃ q : Nat, f k = q := ⟨(f k).toNat, by omega⟩
      rw [hq] at cf hfk
      have cg : wr.cell? ⟨w.heap.size + 1, q, none⟩ = some (.int .u8 (g q)) := by rw [HGB.out.cell, tab_get _ (by omega)]
      have ct : wr.cell? ⟨w.heap.size + 1 + 1 + 1, k, none⟩ = some (.int .u8 (done (fun n => g (f n).toNat) k k)) := by rw [HT.out.cell, tab_get _ hkk]
      have ev : Blk (wr.setCell ⟨w.heap.size + 1 + 1 + 1, k, none⟩ (.int .u8 (g q))) (w.heap.size + 1 + 1 + 1) (tab (done (fun n => g (f n).toNat) (k + 1))) 39 := by
        have := HT.out.set k (.int .u8 (g (f k).toNat))
        rw [done_set (fun n => g (f n).toNat) k] at this
        rwa [hq] at this
      have EV := Lib.hid ev
      have hq1 := hfk.1
      have hq2 := hfk.2
      clear ev hq hfk
      generalize done (fun n => g (f n).toNat) k k = old at *
      go_wp2
      go_roundw
      case rel => exact ⟨k + 1, by omega, by go_num, (by repeat (first | assumption | exact gr_refl _ | refine gr_alloc ?_ _ | refine gr_drew ?_ | refine gr_drewN ?_ _ | refine gr_ext ?_ _ | (refine gr_set ?_ ?_ _; rotate_left; (simp <;> omega)))), by have := HFB.out; exact (by repeat (first | assumption | (refine Blk.at_ _ _ ?_; simp; done) | refine Blk.alloc ?_ _ | refine Blk.drew ?_ | refine Blk.ext ?_ _ | exact Blk.set (by assumption) _ _ | (refine Blk.other ?_ ?_ _; rotate_left; (simp <;> omega)))), by have := HGB.out; exact (by repeat (first | assumption | (refine Blk.at_ _ _ ?_; simp; done) | refine Blk.alloc ?_ _ | refine Blk.drew ?_ | refine Blk.ext ?_ _ | exact Blk.set (by assumption) _ _ | (refine Blk.other ?_ ?_ _; rotate_left; (simp <;> omega)))), by have := HZ.out; exact (by repeat (first | assumption | (refine Blk.at_ _ _ ?_; simp; done) | refine Blk.alloc ?_ _ | refine Blk.drew ?_ | refine Blk.ext ?_ _ | exact Blk.set (by assumption) _ _ | (refine Blk.other ?_ ?_ _; rotate_left; (simp <;> omega)))), EV.out⟩
      case measure => simp [intOf]; omega
    · obtain rfl : k = 256 := by omega
      go_wp2_with (first | (refine wpList_load_row rfl 39 _ rfl (w.heap.size + 1 + 1 + 1) rfl 39 _ (0, 0) _ HT.out.heap Try.underlying39 rfl (by kernel_rfl) ?_) | (refine wpList_store_row rfl 39 _ _ rfl (w.heap.size + 1 + 1) _ rfl rfl 39 _ HZ.out.heap (by kernel_rfl) (by kernel_rfl) (by kernel_rfl) ?_))
      have hz := HZ.out
      refine bodyPost_ret (results_cell_blk rfl _ _ (w.heap.size + 1 + 1) 39 _ _ rfl (hz.setRow _) Try.underlying39 rfl (by kernel_rfl)) rfl ⟨?_, Grew.of (gr_setRow hb (by omega) _)⟩
      rw [done_all]

def sameX (i : Nat) : Int := if i = 0 then -16777216 else 16777216
theorem same_any (w : World) : Calls Try.prog 18 #[] w fun e w' => e = .returned (.slice (some ⟨w.heap.size, 0, none⟩) 2 2) ∧ Cells2 w' (some ⟨w.heap.size, 0, none⟩) 2 sameX sameX ∧ Grew w w' := by
  go_enter Try.func18, Try.ntmps18
  go_wp2
  go_ret
  refine ⟨rfl, fun _ => ⟨_, 0, rfl, fun i hi => ?_⟩, Grew.of (by repeat (first | assumption | exact gr_refl _ | refine gr_alloc ?_ _ | refine gr_drew ?_ | refine gr_drewN ?_ _ | refine gr_ext ?_ _ | (refine gr_set ?_ ?_ _; rotate_left; (simp <;> omega))))⟩
  have : i = 0 ∨ i = 1 := by omega
  have hb := Blk.at_ (w := w) #[.int .i64 (-16777216), .int .i64 (-16777216), .int .i64 16777216, .int .i64 16777216] 132 rfl
  rcases this with rfl | rfl <;> exact ⟨hb.cell _, hb.cell _⟩
end Go.Proofs.Ytneegcnidoopmaa
