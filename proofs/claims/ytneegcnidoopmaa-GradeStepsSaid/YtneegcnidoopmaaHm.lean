/- Contracts of Scale, Gray, Luma, Mix of hue and of ref05. No conditions. -/
import Derived.Test.YtneegcnidoopmaaHu
import Derived.Test.YtneegcnidoopmaaRh
import Derived.Test.YtneegcnidoopmaaLp
namespace Go.Proofs.Ytneegcnidoopmaa
open Go.RowKit

def lumaF (a b c : Int) : Int := held ((2 * held a + 5 * held b + held c) / 8)
theorem gray_any (n : Int) (w : World) : Calls Try.prog 113 #[.int .i64 n] w fun e w' => e = .returned (.agg #[.int .i64 n, .int .i64 n, .int .i64 n]) ∧ Grew w w' := by
  go_enter Try.func113, Try.ntmps113
  go_wp2
  exact bodyPost_ret (v := .agg #[.int .i64 n, .int .i64 n, .int .i64 n]) (by simp [results, Try.results113, go_sem]) rfl ⟨rfl, Grew.of (by repeat (first | assumption | exact gr_refl _ | refine gr_alloc ?_ _ | refine gr_drew ?_ | refine gr_drewN ?_ _ | refine gr_ext ?_ _ | (refine gr_set ?_ ?_ _; rotate_left; (simp <;> omega))))⟩
theorem rscale_any (a0 a1 a2 s : Int) (w : World) : Calls Try.prog 119 #[.agg #[.int .i64 a0, .int .i64 a1, .int .i64 a2], .int .i64 s] w fun e w' => e = .returned (.agg #[.int .i64 (mulF a0 s), .int .i64 (mulF a1 s), .int .i64 (mulF a2 s)]) ∧ Grew w w' := by
  go_enter Try.func119, Try.ntmps119
  go_wp2_with (go_at_call 120; refine (rhmul_any _ _ _ _ _ _ _).mono ?_; rintro e w' ⟨rfl, x1, rfl⟩)
  exact bodyPost_ret (v := .agg #[.int .i64 (mulF a0 s), .int .i64 (mulF a1 s), .int .i64 (mulF a2 s)]) (by simp [results, Try.results119, go_sem]) rfl ⟨rfl, Grew.of (by repeat (first | assumption | exact gr_refl _ | refine gr_alloc ?_ _ | refine gr_drew ?_ | refine gr_drewN ?_ _ | refine gr_ext ?_ _ | (refine gr_set ?_ ?_ _; rotate_left; (simp <;> omega))))⟩
theorem scale_any (a0 a1 a2 s : Int) (w : World) : Calls Try.prog 108 #[.agg #[.int .i64 a0, .int .i64 a1, .int .i64 a2], .int .i64 s] w fun e w' => e = .returned (.agg #[.int .i64 (mulF a0 s), .int .i64 (mulF a1 s), .int .i64 (mulF a2 s)]) ∧ Grew w w' := by
  go_enter Try.func108, Try.ntmps108
  go_wp2
  refine wp_region_ext_tail 4 (by kernel_rfl) (by kernel_rfl) ?_
  simp only [List.take_succ_cons, List.take_zero, List.drop_succ_cons, List.drop_zero]
  repeat (go_big_quiet_step ((first | (go_at_call 113; exact Calls.grew _ (gray_any _ _)) | (go_at_call 110; exact Calls.grew _ (hmul_any _ _ _ _ _ _ _)))))
  refine wpQuiet_nil ?_
  rintro _ ⟨x1, rfl⟩
  go_wp2
  exact bodyPost_ret (v := .agg #[.int .i64 (mulF a0 s), .int .i64 (mulF a1 s), .int .i64 (mulF a2 s)]) (by simp [results, Try.results108, go_sem]) rfl ⟨rfl, Grew.of (by repeat (first | assumption | exact gr_refl _ | refine gr_alloc ?_ _ | refine gr_drew ?_ | refine gr_drewN ?_ _ | refine gr_ext ?_ _ | (refine gr_set ?_ ?_ _; rotate_left; (simp <;> omega))))⟩
set_option maxHeartbeats 1000000 in
theorem rhmix_any (a0 a1 a2 b0 b1 b2 t : Int) (w : World) :
    Calls Try.prog 154 #[.agg #[.int .i64 a0, .int .i64 a1, .int .i64 a2], .agg #[.int .i64 b0, .int .i64 b1, .int .i64 b2], .int .i64 t] w fun e w' =>
      e = .returned (.agg #[.int .i64 (lerpF a0 b0 t), .int .i64 (lerpF a1 b1 t), .int .i64 (lerpF a2 b2 t)]) ∧ Grew w w' := by
  go_enter Try.func154, Try.ntmps154
  go_wp2
  go_loopw [8] (fun i wr => ∃ k : Nat, k ≤ 3 ∧ i = .int .i64 k ∧ Below w.heap.size w wr ∧ Blk wr w.heap.size (arr3 a0 a1 a2) 33 ∧ Blk wr (w.heap.size + 1) (arr3 b0 b1 b2) 33 ∧ Blk wr (w.heap.size + 1 + 1) (arr3 0 0 0) 33 ∧
      Blk wr (w.heap.size + 1 + 1 + 1) (upto3 k (lerpF a0 b0 t) (lerpF a1 b1 t) (lerpF a2 b2 t)) 33) (fun i _ => 3 - (intOf i).toNat)
  case atStart =>
    refine ⟨0, by omega, rfl, ?_, ?_, ?_, ?_, ?_⟩
    · exact (by repeat (first | assumption | exact gr_refl _ | refine gr_alloc ?_ _ | refine gr_drew ?_ | refine gr_drewN ?_ _ | refine gr_ext ?_ _ | (refine gr_set ?_ ?_ _; rotate_left; (simp <;> omega))))
    · exact (by repeat (first | assumption | (refine Blk.at_ _ _ ?_; simp; done) | refine Blk.alloc ?_ _ | refine Blk.drew ?_ | refine Blk.ext ?_ _ | exact Blk.set (by assumption) _ _ | (refine Blk.other ?_ ?_ _; rotate_left; (simp <;> omega))))
    · exact (by repeat (first | assumption | (refine Blk.at_ _ _ ?_; simp; done) | refine Blk.alloc ?_ _ | refine Blk.drew ?_ | refine Blk.ext ?_ _ | exact Blk.set (by assumption) _ _ | (refine Blk.other ?_ ?_ _; rotate_left; (simp <;> omega))))
    · exact (by repeat (first | assumption | (refine Blk.at_ _ _ ?_; simp; done) | refine Blk.alloc ?_ _ | refine Blk.drew ?_ | refine Blk.ext ?_ _ | exact Blk.set (by assumption) _ _ | (refine Blk.other ?_ ?_ _; rotate_left; (simp <;> omega))))
    · exact (by repeat (first | assumption | (refine Blk.at_ _ _ ?_; simp; done) | refine Blk.alloc ?_ _ | refine Blk.drew ?_ | refine Blk.ext ?_ _ | exact Blk.set (by assumption) _ _ | (refine Blk.other ?_ ?_ _; rotate_left; (simp <;> omega))))
  case round =>
    obtain ⟨k, hk, rfl, hb, ha, hbb, hr, ho⟩ := hrel
    have la := ha.lt
    have lb := hbb.lt
    have lr := hr.lt
    have lo := ho.lt
    have ca := ha.cell
    have cb := hbb.cell
    have co := ho.cell
    have cr := hr.cell
    have fo := ho.frozen
    have fr := hr.frozen
    have hk' : k = 0 ∨ k = 1 ∨ k = 2 ∨ k = 3 := by omega
    rcases hk' with rfl | rfl | rfl | rfl
    · simp [arr3, upto3] at ca cb co cr
      go_wp2
      refine wp_region_ext_tail 10 (by kernel_rfl) (by kernel_rfl) ?_
      simp only [List.take_succ_cons, List.take_zero, List.drop_succ_cons, List.drop_zero]
      repeat (go_big_quiet_step ((first | (go_at_call 180; exact Calls.ext_same _ (rlerp_any _ _ _ _)))))
      refine wpQuiet_nil ?_
      rintro _ ⟨x1, rfl⟩
      go_wp2
      go_roundw
      case rel =>
        have ho1 := ho.ext x1
        clear ca cb co cr fo fr
        exact ⟨1, by omega, rfl, (by repeat (first | assumption | exact gr_refl _ | refine gr_alloc ?_ _ | refine gr_drew ?_ | refine gr_drewN ?_ _ | refine gr_ext ?_ _ | (refine gr_set ?_ ?_ _; rotate_left; (simp <;> omega)))), (by repeat (first | assumption | (refine Blk.at_ _ _ ?_; simp; done) | refine Blk.alloc ?_ _ | refine Blk.drew ?_ | refine Blk.ext ?_ _ | exact Blk.set (by assumption) _ _ | (refine Blk.other ?_ ?_ _; rotate_left; (simp <;> omega)))), (by repeat (first | assumption | (refine Blk.at_ _ _ ?_; simp; done) | refine Blk.alloc ?_ _ | refine Blk.drew ?_ | refine Blk.ext ?_ _ | exact Blk.set (by assumption) _ _ | (refine Blk.other ?_ ?_ _; rotate_left; (simp <;> omega)))), (by repeat (first | assumption | (refine Blk.at_ _ _ ?_; simp; done) | refine Blk.alloc ?_ _ | refine Blk.drew ?_ | refine Blk.ext ?_ _ | exact Blk.set (by assumption) _ _ | (refine Blk.other ?_ ?_ _; rotate_left; (simp <;> omega)))), (by repeat (first | assumption | (refine Blk.at_ _ _ ?_; simp; done) | refine Blk.alloc ?_ _ | refine Blk.drew ?_ | refine Blk.ext ?_ _ | exact Blk.set (by assumption) _ _ | (refine Blk.other ?_ ?_ _; rotate_left; (simp <;> omega))))⟩
      case measure => simp [intOf]
    · simp [arr3, upto3] at ca cb co cr
      go_wp2
      refine wp_region_ext_tail 10 (by kernel_rfl) (by kernel_rfl) ?_
      simp only [List.take_succ_cons, List.take_zero, List.drop_succ_cons, List.drop_zero]
      repeat (go_big_quiet_step ((first | (go_at_call 180; exact Calls.ext_same _ (rlerp_any _ _ _ _)))))
      refine wpQuiet_nil ?_
      rintro _ ⟨x1, rfl⟩
      go_wp2
      go_roundw
      case rel =>
        have ho1 := ho.ext x1
        clear ca cb co cr fo fr
        exact ⟨2, by omega, rfl, (by repeat (first | assumption | exact gr_refl _ | refine gr_alloc ?_ _ | refine gr_drew ?_ | refine gr_drewN ?_ _ | refine gr_ext ?_ _ | (refine gr_set ?_ ?_ _; rotate_left; (simp <;> omega)))), (by repeat (first | assumption | (refine Blk.at_ _ _ ?_; simp; done) | refine Blk.alloc ?_ _ | refine Blk.drew ?_ | refine Blk.ext ?_ _ | exact Blk.set (by assumption) _ _ | (refine Blk.other ?_ ?_ _; rotate_left; (simp <;> omega)))), (by repeat (first | assumption | (refine Blk.at_ _ _ ?_; simp; done) | refine Blk.alloc ?_ _ | refine Blk.drew ?_ | refine Blk.ext ?_ _ | exact Blk.set (by assumption) _ _ | (refine Blk.other ?_ ?_ _; rotate_left; (simp <;> omega)))), (by repeat (first | assumption | (refine Blk.at_ _ _ ?_; simp; done) | refine Blk.alloc ?_ _ | refine Blk.drew ?_ | refine Blk.ext ?_ _ | exact Blk.set (by assumption) _ _ | (refine Blk.other ?_ ?_ _; rotate_left; (simp <;> omega)))), (by repeat (first | assumption | (refine Blk.at_ _ _ ?_; simp; done) | refine Blk.alloc ?_ _ | refine Blk.drew ?_ | refine Blk.ext ?_ _ | exact Blk.set (by assumption) _ _ | (refine Blk.other ?_ ?_ _; rotate_left; (simp <;> omega))))⟩
      case measure => simp [intOf]
    · simp [arr3, upto3] at ca cb co cr
      go_wp2
      refine wp_region_ext_tail 10 (by kernel_rfl) (by kernel_rfl) ?_
      simp only [List.take_succ_cons, List.take_zero, List.drop_succ_cons, List.drop_zero]
      repeat (go_big_quiet_step ((first | (go_at_call 180; exact Calls.ext_same _ (rlerp_any _ _ _ _)))))
      refine wpQuiet_nil ?_
      rintro _ ⟨x1, rfl⟩
      go_wp2
      go_roundw
      case rel =>
        have ho1 := ho.ext x1
        clear ca cb co cr fo fr
        exact ⟨3, by omega, rfl, (by repeat (first | assumption | exact gr_refl _ | refine gr_alloc ?_ _ | refine gr_drew ?_ | refine gr_drewN ?_ _ | refine gr_ext ?_ _ | (refine gr_set ?_ ?_ _; rotate_left; (simp <;> omega)))), (by repeat (first | assumption | (refine Blk.at_ _ _ ?_; simp; done) | refine Blk.alloc ?_ _ | refine Blk.drew ?_ | refine Blk.ext ?_ _ | exact Blk.set (by assumption) _ _ | (refine Blk.other ?_ ?_ _; rotate_left; (simp <;> omega)))), (by repeat (first | assumption | (refine Blk.at_ _ _ ?_; simp; done) | refine Blk.alloc ?_ _ | refine Blk.drew ?_ | refine Blk.ext ?_ _ | exact Blk.set (by assumption) _ _ | (refine Blk.other ?_ ?_ _; rotate_left; (simp <;> omega)))), (by repeat (first | assumption | (refine Blk.at_ _ _ ?_; simp; done) | refine Blk.alloc ?_ _ | refine Blk.drew ?_ | refine Blk.ext ?_ _ | exact Blk.set (by assumption) _ _ | (refine Blk.other ?_ ?_ _; rotate_left; (simp <;> omega)))), (by repeat (first | assumption | (refine Blk.at_ _ _ ?_; simp; done) | refine Blk.alloc ?_ _ | refine Blk.drew ?_ | refine Blk.ext ?_ _ | exact Blk.set (by assumption) _ _ | (refine Blk.other ?_ ?_ _; rotate_left; (simp <;> omega))))⟩
      case measure => simp [intOf]
    · simp [arr3, upto3] at ca cb co cr
      go_wp2
      exact bodyPost_ret (v := .agg #[.int .i64 (lerpF a0 b0 t), .int .i64 (lerpF a1 b1 t), .int .i64 (lerpF a2 b2 t)]) (by simp [results, Try.results154, go_sem, ca, cb, cr, co]) rfl ⟨rfl, Grew.of (by repeat (first | assumption | exact gr_refl _ | refine gr_alloc ?_ _ | refine gr_drew ?_ | refine gr_drewN ?_ _ | refine gr_ext ?_ _ | (refine gr_set ?_ ?_ _; rotate_left; (simp <;> omega))))⟩


theorem luma_any (a0 a1 a2 : Int) (w : World) : Calls Try.prog 114 #[.agg #[.int .i64 a0, .int .i64 a1, .int .i64 a2]] w fun e w' => e = .returned (.int .i64 (lumaF a0 a1 a2)) ∧ Grew w w' := by
  have h0 := held_bd a0
  have h1 := held_bd a1
  have h2 := held_bd a2
  go_enter Try.func114, Try.ntmps114
  go_wp2
  refine wp_region_ext (by kernel_rfl) (by kernel_rfl) ?_
  repeat (go_big_quiet_step ((first | (go_at_call 56; exact Calls.ext_same _ (clamp_any _ _)))))
  refine wpQuiet_nil ?_
  rintro _ ⟨x1, rfl⟩
  go_wp2_with (go_at_call 56; refine (clamp_any _ _).mono ?_; rintro e w' ⟨rfl, rfl⟩)
  go_ret
  exact ⟨rfl, Grew.of (by repeat (first | assumption | exact gr_refl _ | refine gr_alloc ?_ _ | refine gr_drew ?_ | refine gr_drewN ?_ _ | refine gr_ext ?_ _ | (refine gr_set ?_ ?_ _; rotate_left; (simp <;> omega))))⟩
end Go.Proofs.Ytneegcnidoopmaa
