/- Contracts of grade.Make and ref39.Make: the table of a curve. Conditions: the pins lie behind the slice. -/
import Derived.Test.YtneegcnidoopmaaFx
import Derived.Test.YtneegcnidoopmaaG
import Derived.Test.YtneegcnidoopmaaH
import Derived.Test.YtneegcnidoopmaaN
namespace Go.Proofs.Ytneegcnidoopmaa
open Go.RowKit

def partF (k : Int) : Int := held (held (k * 65536) * 65536 / held 16711680)
noncomputable def makeF (X Y : Nat → Int) (n : Nat) (i : Nat) : Int := shadeF (curveAt X Y n (partF i))
theorem makeF_eq (X Y : Nat → Int) (n k : Nat) : shadeF (curveAt X Y n (held (held ((k : Int) * 65536) * 65536 / held 16711680))) = makeF X Y n k := rfl
theorem makeF_bd (X Y : Nat → Int) (n i : Nat) : 0 ≤ makeF X Y n i ∧ makeF X Y n i ≤ 255 := shadeF_bd _

set_option maxRecDepth 100000 in
set_option maxHeartbeats 1000000 in
theorem make_any (A : Option Addr) (n cap : Nat) (X Y : Nat → Int) (w : World) (hn : n ≤ 9223372036854775806) (hcap : n ≤ cap) (hc : Cells2 w A n X Y) :
    Calls Try.prog 26 #[.slice A n cap] w fun e w' => e = .returned (.agg (tab (makeF X Y n))) ∧ Grew w w' := by
  have z : Try.zeroCells39 = tab (fun _ => 0) := by kernel_rfl
  have Z := Lib.hid z
  have HC := Lib.hid hc
  clear z hc
  go_enter Try.func26, Try.ntmps26
  go_wp2
  go_loopw [5] (fun i wr => ∃ k : Nat, k ≤ 256 ∧ i = .int .i64 k ∧ Below w.heap.size w wr ∧ Blk wr w.heap.size Try.zeroCells39 39 ∧ Blk wr (w.heap.size + 1) (tab (done (makeF X Y n) k)) 39) (fun i _ => 256 - (intOf i).toNat)
  case atStart =>
    have e0 : tab (done (makeF X Y n) 0) = Try.zeroCells39 := by rw [Z.out]; exact tab_congr fun i _ => if_neg (by omega)
    exact ⟨0, by omega, rfl, (by repeat (first | assumption | exact gr_refl _ | refine gr_alloc ?_ _ | refine gr_drew ?_ | refine gr_drewN ?_ _ | refine gr_ext ?_ _ | (refine gr_set ?_ ?_ _; rotate_left; (simp <;> omega)))), (by repeat (first | assumption | (refine Blk.at_ _ _ ?_; simp; done) | refine Blk.alloc ?_ _ | refine Blk.drew ?_ | refine Blk.ext ?_ _ | exact Blk.set (by assumption) _ _ | (refine Blk.other ?_ ?_ _; rotate_left; (simp <;> omega)))), by rw [e0]; exact (by repeat (first | assumption | (refine Blk.at_ _ _ ?_; simp; done) | refine Blk.alloc ?_ _ | refine Blk.drew ?_ | refine Blk.ext ?_ _ | exact Blk.set (by assumption) _ _ | (refine Blk.other ?_ ?_ _; rotate_left; (simp <;> omega))))⟩
  case round =>
    obtain ⟨k, hk, rfl, hb, hz, ht⟩ := hrel
    have lz := hz.lt
    have lt := ht.lt
    have HZ := Lib.hid hz
    have HT := Lib.hid ht
    have HB := Lib.hid hb
    have ft := ht.frozen
    clear hz ht
    by_cases hkk : k < 256
    · have C1 := Lib.hid (HC.out.below hb)
      clear hb
      have hd : 0 < held 16711680 := by decide
      have ct : wr.cell? ⟨w.heap.size + 1, k, none⟩ = some (.int .u8 (done (makeF X Y n) k k)) := by rw [HT.out.cell, tab_get _ hkk]
      generalize done (makeF X Y n) k k = old at *
      go_wp2_with (first | (go_at_call 64; refine (of_any _ _ (by omega) (by omega)).mono ?_; rintro e w' ⟨rfl, rfl⟩) | (go_at_call 63; refine (fdiv_any _ _ _ hd).mono ?_; rintro e w' ⟨rfl, rfl⟩) | (go_at_call 14; refine (at_any A n cap X Y _ _ hn hcap C1.out).mono ?_; rintro e w' ⟨rfl, x1, rfl⟩) | (go_at_call 62; refine (shade_any _ _).mono ?_; rintro e w' ⟨rfl, rfl⟩; rw [makeF_eq]))
      go_roundw
      case rel =>
        refine ⟨k + 1, by omega, by go_num, by have := HB.out; exact (by repeat (first | assumption | exact gr_refl _ | refine gr_alloc ?_ _ | refine gr_drew ?_ | refine gr_drewN ?_ _ | refine gr_ext ?_ _ | (refine gr_set ?_ ?_ _; rotate_left; (simp <;> omega)))), by have := HZ.out; exact (by repeat (first | assumption | (refine Blk.at_ _ _ ?_; simp; done) | refine Blk.alloc ?_ _ | refine Blk.drew ?_ | refine Blk.ext ?_ _ | exact Blk.set (by assumption) _ _ | (refine Blk.other ?_ ?_ _; rotate_left; (simp <;> omega)))), ?_⟩
        have := (HT.out.ext x1).set k (.int .u8 (makeF X Y n k))
        rwa [done_set (makeF X Y n) k] at this
      case measure => simp [intOf]; omega
    · obtain rfl : k = 256 := by omega
      go_wp2_with (first | (refine wpList_load_row rfl 39 _ rfl (w.heap.size + 1) rfl 39 _ (0, 0) _ HT.out.heap Try.underlying39 rfl (by kernel_rfl) ?_) | (refine wpList_store_row rfl 39 _ _ rfl w.heap.size _ rfl rfl 39 _ HZ.out.heap (by kernel_rfl) (by kernel_rfl) (by kernel_rfl) ?_))
      have hz := HZ.out
      refine bodyPost_ret (results_cell_blk rfl _ _ w.heap.size 39 _ _ rfl (hz.setRow _) Try.underlying39 rfl (by kernel_rfl)) rfl ⟨?_, Grew.of (gr_setRow hb (by omega) _)⟩
      rw [done_all]
set_option maxRecDepth 100000 in
set_option maxHeartbeats 1000000 in
theorem rmake_any (A : Option Addr) (n cap : Nat) (X Y : Nat → Int) (w : World) (hn : n ≤ 9223372036854775806) (hc : Cells2 w A n X Y) :
    Calls Try.prog 27 #[.slice A n cap] w fun e w' => e = .returned (.agg (tab (makeF X Y n))) ∧ Grew w w' := by
  have z : Try.zeroCells38 = tab (fun _ => 0) := by kernel_rfl
  have Z := Lib.hid z
  have HC := Lib.hid hc
  clear z hc
  go_enter Try.func27, Try.ntmps27
  go_wp2
  go_loopw [4] (fun i wr => ∃ k : Nat, k ≤ 256 ∧ i = .int .i64 k ∧ Below w.heap.size w wr ∧ Blk wr w.heap.size Try.zeroCells38 38 ∧ Blk wr (w.heap.size + 1) (tab (done (makeF X Y n) k)) 38) (fun i _ => 256 - (intOf i).toNat)
  case atStart =>
    have e0 : tab (done (makeF X Y n) 0) = Try.zeroCells38 := by rw [Z.out]; exact tab_congr fun i _ => if_neg (by omega)
    exact ⟨0, by omega, rfl, (by repeat (first | assumption | exact gr_refl _ | refine gr_alloc ?_ _ | refine gr_drew ?_ | refine gr_drewN ?_ _ | refine gr_ext ?_ _ | (refine gr_set ?_ ?_ _; rotate_left; (simp <;> omega)))), (by repeat (first | assumption | (refine Blk.at_ _ _ ?_; simp; done) | refine Blk.alloc ?_ _ | refine Blk.drew ?_ | refine Blk.ext ?_ _ | exact Blk.set (by assumption) _ _ | (refine Blk.other ?_ ?_ _; rotate_left; (simp <;> omega)))), by rw [e0]; exact (by repeat (first | assumption | (refine Blk.at_ _ _ ?_; simp; done) | refine Blk.alloc ?_ _ | refine Blk.drew ?_ | refine Blk.ext ?_ _ | exact Blk.set (by assumption) _ _ | (refine Blk.other ?_ ?_ _; rotate_left; (simp <;> omega))))⟩
  case round =>
    obtain ⟨k, hk, rfl, hb, hz, ht⟩ := hrel
    have lz := hz.lt
    have lt := ht.lt
    have HZ := Lib.hid hz
    have HT := Lib.hid ht
    have HB := Lib.hid hb
    have ft := ht.frozen
    clear hz ht
    by_cases hkk : k < 256
    · have C1 := Lib.hid (HC.out.below hb)
      clear hb
      have hd : 0 < held 16711680 := by decide
      have ct : wr.cell? ⟨w.heap.size + 1, k, none⟩ = some (.int .u8 (done (makeF X Y n) k k)) := by rw [HT.out.cell, tab_get _ hkk]
      generalize done (makeF X Y n) k k = old at *
      go_wp2_with (first | (go_at_call 67; refine (rof_any _ _ (by omega) (by omega)).mono ?_; rintro e w' ⟨rfl, rfl⟩) | (go_at_call 66; refine (rdiv_any _ _ _ hd).mono ?_; rintro e w' ⟨rfl, rfl⟩) | (go_at_call 15; refine (rat_any A n cap X Y _ _ hn C1.out).mono ?_; rintro e w' ⟨rfl, x1, rfl⟩) | (go_at_call 65; refine (rshade_any _ _).mono ?_; rintro e w' ⟨rfl, rfl⟩; rw [makeF_eq]))
      go_roundw
      case rel =>
        refine ⟨k + 1, by omega, by go_num, by have := HB.out; exact (by repeat (first | assumption | exact gr_refl _ | refine gr_alloc ?_ _ | refine gr_drew ?_ | refine gr_drewN ?_ _ | refine gr_ext ?_ _ | (refine gr_set ?_ ?_ _; rotate_left; (simp <;> omega)))), by have := HZ.out; exact (by repeat (first | assumption | (refine Blk.at_ _ _ ?_; simp; done) | refine Blk.alloc ?_ _ | refine Blk.drew ?_ | refine Blk.ext ?_ _ | exact Blk.set (by assumption) _ _ | (refine Blk.other ?_ ?_ _; rotate_left; (simp <;> omega)))), ?_⟩
        have := (HT.out.ext x1).set k (.int .u8 (makeF X Y n k))
        rwa [done_set (makeF X Y n) k] at this
      case measure => simp [intOf]; omega
    · obtain rfl : k = 256 := by omega
      go_wp2_with (first | (refine wpList_load_row rfl 38 _ rfl (w.heap.size + 1) rfl 38 _ (0, 0) _ HT.out.heap Try.underlying38 rfl (by kernel_rfl) ?_) | (refine wpList_store_row rfl 38 _ _ rfl w.heap.size _ rfl rfl 38 _ HZ.out.heap (by kernel_rfl) (by kernel_rfl) (by kernel_rfl) ?_))
      have hz := HZ.out
      refine bodyPost_ret (results_cell_blk rfl _ _ w.heap.size 38 _ _ rfl (hz.setRow _) Try.underlying38 rfl (by kernel_rfl)) rfl ⟨?_, Grew.of (gr_setRow hb (by omega) _)⟩
      rw [done_all]
end Go.Proofs.Ytneegcnidoopmaa
