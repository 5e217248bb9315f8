/- Contracts of the closures that grade.Contrast and grade.Through return. Conditions: what their captured cells hold. -/
import Derived.Test.YtneegcnidoopmaaSt
import Derived.Test.YtneegcnidoopmaaG
namespace Go.Proofs.Ytneegcnidoopmaa
open Go.RowKit

set_option maxHeartbeats 1000000 in
theorem contrast1_any (h0 h1 h2 m b : Int) (p q : Nat) (w : World) (hp0 : w.cell? ⟨p, 0, none⟩ = some (.int .i64 m)) (hp1 : w.cell? ⟨p, 1, none⟩ = some (.int .i64 m)) (hp2 : w.cell? ⟨p, 2, none⟩ = some (.int .i64 m)) (hq : w.cell? ⟨q, 0, none⟩ = some (.int .i64 b)) :
    Calls Try.prog 115 #[.agg #[.int .i64 h0, .int .i64 h1, .int .i64 h2], .pointer (some ⟨p, 0, none⟩), .pointer (some ⟨q, 0, none⟩)] w fun e w' => e = .returned (.agg #[.int .i64 (addF m (mulF (subF h0 m) b)), .int .i64 (addF m (mulF (subF h1 m) b)), .int .i64 (addF m (mulF (subF h2 m) b))]) ∧ Grew w w' := by
  have lp := World.block_lt_of_cell? _ _ hp0
  have lq := World.block_lt_of_cell? _ _ hq
  simp only at lp lq
  have l1 : p < w.heap.size + 1 := by omega
  have l2 : p < w.heap.size + 1 + 1 := by omega
  have l3 : q < w.heap.size + 1 := by omega
  have l4 : q < w.heap.size + 1 + 1 := by omega
  go_enter Try.func115, Try.ntmps115
  go_wp2
  refine wp_region_ext_tail 7 (by kernel_rfl) (by kernel_rfl) ?_
  simp only [List.take_succ_cons, List.take_zero, List.drop_succ_cons, List.drop_zero]
  repeat (go_big_quiet_step ((first | (go_at_call 117; exact Calls.grew _ (hsub_any _ _ _ _ _ _ _)) | (go_at_call 108; exact Calls.grew _ (scale_any _ _ _ _ _)) | (go_at_call 116; exact Calls.grew _ (hadd_any _ _ _ _ _ _ _)))))
  refine wpQuiet_nil ?_
  rintro _ ⟨x1, rfl⟩
  go_wp2
  exact bodyPost_ret (v := .agg #[.int .i64 (addF m (mulF (subF h0 m) b)), .int .i64 (addF m (mulF (subF h1 m) b)), .int .i64 (addF m (mulF (subF h2 m) b))]) (by simp [results, Try.results115, go_sem]) rfl ⟨rfl, Grew.of (by repeat (first | assumption | exact gr_refl _ | refine gr_alloc ?_ _ | refine gr_drew ?_ | refine gr_drewN ?_ _ | refine gr_ext ?_ _ | (refine gr_set ?_ ?_ _; rotate_left; (simp <;> omega))))⟩
set_option maxHeartbeats 1000000 in
theorem through1_any (h0 h1 h2 : Int) (A : Option Addr) (n cap : Nat) (X Y : Nat → Int) (p : Nat) (w : World) (hp : w.cell? ⟨p, 0, none⟩ = some (.slice A n cap)) (hn : n ≤ 9223372036854775806) (hcap : n ≤ cap) (hc : Cells2 w A n X Y) :
    Calls Try.prog 106 #[.agg #[.int .i64 h0, .int .i64 h1, .int .i64 h2], .pointer (some ⟨p, 0, none⟩)] w fun e w' => e = .returned (.agg #[.int .i64 (curveAt X Y n h0), .int .i64 (curveAt X Y n h1), .int .i64 (curveAt X Y n h2)]) ∧ Grew w w' := by
  have lp := World.block_lt_of_cell? _ _ hp
  simp only at lp
  have l1 : p < w.heap.size + 1 := by omega
  have l2 : p < w.heap.size + 1 + 1 := by omega
  have HC := Lib.hid hc
  clear hc
  go_enter Try.func106, Try.ntmps106
  go_wp2
  refine wp_region_ext_tail 13 (by kernel_rfl) (by kernel_rfl) ?_
  simp only [List.take_succ_cons, List.take_zero, List.drop_succ_cons, List.drop_zero]
  repeat (go_big_quiet_step ((first | (go_at_call 14; exact Calls.grew _ (at_any A n cap X Y _ _ hn hcap (HC.out.below ((by repeat (first | assumption | exact gr_refl _ | refine gr_alloc ?_ _ | refine gr_drew ?_ | refine gr_drewN ?_ _ | refine gr_ext ?_ _ | (refine gr_set ?_ ?_ _; rotate_left; (simp <;> omega)))))))))))
  refine wpQuiet_nil ?_
  rintro _ ⟨x1, rfl⟩
  go_wp2
  exact bodyPost_ret (v := .agg #[.int .i64 (curveAt X Y n h0), .int .i64 (curveAt X Y n h1), .int .i64 (curveAt X Y n h2)]) (by simp [results, Try.results106, go_sem]) rfl ⟨rfl, Grew.of (by repeat (first | assumption | exact gr_refl _ | refine gr_alloc ?_ _ | refine gr_drew ?_ | refine gr_drewN ?_ _ | refine gr_ext ?_ _ | (refine gr_set ?_ ?_ _; rotate_left; (simp <;> omega))))⟩
end Go.Proofs.Ytneegcnidoopmaa
