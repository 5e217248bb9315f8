/- Contracts of fix.Abs, fix.Sum, vec.Dot, hue.Diff and of their references. No conditions. -/
import Derived.Test.YtneegcnidoopmaaDoorHu
import Derived.Test.YtneegcnidoopmaaDoorRh
namespace Go.Proofs.YtneegcnidoopmaaDoor
open Go.RowKit

def absF (a : Int) : Int := if held a < 0 then -(held a) else held a
theorem absF_bd (a : Int) : 0 ≤ absF a ∧ absF a ≤ 2147483648 := by have := held_bd a; unfold absF; split <;> omega
def sum3F (a b c : Int) : Int := addF (addF (addF 0 a) b) c
def dotF (a0 a1 a2 b0 b1 b2 : Int) : Int := sum3F (mulF a0 b0) (mulF a1 b1) (mulF a2 b2)
def diffF (a0 a1 a2 b0 b1 b2 : Int) : Int := sum3F (absF (subF a0 b0)) (absF (subF a1 b1)) (absF (subF a2 b2))
theorem addF_bd (a b : Int) : -2147483648 ≤ addF a b ∧ addF a b ≤ 2147483648 := held_bd _
theorem subF_bd (a b : Int) : -2147483648 ≤ subF a b ∧ subF a b ≤ 2147483648 := held_bd _
theorem mulF_bd (a b : Int) : -2147483648 ≤ mulF a b ∧ mulF a b ≤ 2147483648 := held_bd _
theorem held_nonneg {n : Int} (h : 0 ≤ n) : 0 ≤ held n := by unfold held; split <;> (try split) <;> omega
theorem addF_nonneg {a b : Int} (ha : 0 ≤ a) (hb : 0 ≤ b) : 0 ≤ addF a b := held_nonneg (by have := held_nonneg ha; have := held_nonneg hb; omega)
theorem mulF_nonneg {a b : Int} (ha : 0 ≤ a) (hb : 0 ≤ b) : 0 ≤ mulF a b := held_nonneg (by have := Int.mul_nonneg (held_nonneg ha) (held_nonneg hb); omega)
theorem diffF_nonneg (a0 a1 a2 b0 b1 b2 : Int) : 0 ≤ diffF a0 a1 a2 b0 b1 b2 := addF_nonneg (addF_nonneg (addF_nonneg (by omega) (absF_bd _).1) (absF_bd _).1) (absF_bd _).1

theorem abs_any (a : Int) (w : World) : Calls Tryd.prog 62 #[.int .i64 a] w fun e w' => e = .returned (.int .i64 (absF a)) ∧ w = w' := by
  have ha := held_bd a
  by_cases h : held a < 0
  · have e : held (-(held a)) = absF a := by unfold absF; rw [if_pos h, held_in (by omega) (by omega)]
    have E := Lib.hid e
    clear e
    go_enter Tryd.func62, Tryd.ntmps62
    go_wp2_with (first | (go_at_call 51; refine (in_any _ _).mono ?_; rintro e w' ⟨rfl, rfl⟩) | (go_at_call 50; refine (clamp_any _ _).mono ?_; rintro e w' ⟨rfl, rfl⟩))
    go_ret
    exact ⟨ret_i (by rw [← E.out]), rfl⟩
  · have e : held (held a) = absF a := by unfold absF; rw [if_neg h, held_held]
    have E := Lib.hid e
    clear e
    go_enter Tryd.func62, Tryd.ntmps62
    go_wp2_with (first | (go_at_call 51; refine (in_any _ _).mono ?_; rintro e w' ⟨rfl, rfl⟩) | (go_at_call 50; refine (clamp_any _ _).mono ?_; rintro e w' ⟨rfl, rfl⟩))
    go_ret
    exact ⟨ret_i (by rw [← E.out]), rfl⟩
set_option maxHeartbeats 1000000 in
theorem fsum3_any (a b c : Int) (p : Nat) (w : World) (h0 : w.cell? ⟨p, 0, none⟩ = some (.int .i64 a)) (h1 : w.cell? ⟨p, 1, none⟩ = some (.int .i64 b)) (h2 : w.cell? ⟨p, 2, none⟩ = some (.int .i64 c)) :
    Calls Tryd.prog 65 #[.slice (some ⟨p, 0, none⟩) 3 3] w fun e w' => e = .returned (.int .i64 (sum3F a b c)) ∧ w = w' := by
  go_enter Tryd.func65, Tryd.ntmps65
  go_wp2
  refine wp_loop_rounds 4 ?_
  rw [rounds_succ]
  go_wp2_with (go_at_call 31; refine (fadd_any _ _ _).mono ?_; rintro e w' ⟨rfl, rfl⟩)
  rw [rounds_succ]
  go_wp2_with (go_at_call 31; refine (fadd_any _ _ _).mono ?_; rintro e w' ⟨rfl, rfl⟩)
  rw [rounds_succ]
  go_wp2_with (go_at_call 31; refine (fadd_any _ _ _).mono ?_; rintro e w' ⟨rfl, rfl⟩)
  rw [rounds_succ]
  go_wp2
  go_ret
  exact ⟨rfl, rfl⟩
set_option maxHeartbeats 1000000 in
theorem dot_any (a0 a1 a2 b0 b1 b2 : Int) (w : World) : Calls Tryd.prog 61 #[.agg #[.int .i64 a0, .int .i64 a1, .int .i64 a2], .agg #[.int .i64 b0, .int .i64 b1, .int .i64 b2]] w fun e w' => e = .returned (.int .i64 (dotF a0 a1 a2 b0 b1 b2)) ∧ Grew w w' := by
  go_enter Tryd.func61, Tryd.ntmps61
  go_wp2
  refine wp_region_ext_tail 15 (by kernel_rfl) (by kernel_rfl) ?_
  simp only [List.take_succ_cons, List.take_zero, List.drop_succ_cons, List.drop_zero]
  repeat (go_big_quiet_step ((first | (go_at_call 44; exact Calls.ext_same _ (fmul_any _ _ _)))))
  refine wpQuiet_nil ?_
  rintro _ ⟨x1, rfl⟩
  go_wp2_with (go_at_call 65; refine (fsum3_any (mulF a0 b0) (mulF a1 b1) (mulF a2 b2) _ _ ?_ ?_ ?_).mono ?_; (go_simp); (go_simp); (go_simp); rintro e w' ⟨rfl, rfl⟩)
  go_ret
  exact ⟨rfl, Grew.of (by repeat (first | assumption | exact gr_refl _ | refine gr_alloc ?_ _ | refine gr_drew ?_ | refine gr_drewN ?_ _ | refine gr_ext ?_ _ | (refine gr_set ?_ ?_ _; rotate_left; (simp <;> omega))))⟩
set_option maxHeartbeats 1000000 in
theorem diff_any (a0 a1 a2 b0 b1 b2 : Int) (w : World) : Calls Tryd.prog 64 #[.agg #[.int .i64 a0, .int .i64 a1, .int .i64 a2], .agg #[.int .i64 b0, .int .i64 b1, .int .i64 b2]] w fun e w' => e = .returned (.int .i64 (diffF a0 a1 a2 b0 b1 b2)) ∧ Grew w w' := by
  go_enter Tryd.func64, Tryd.ntmps64
  go_wp2_with (go_at_call 66; refine (hsub_any _ _ _ _ _ _ _).mono ?_; rintro e w' ⟨rfl, x0, rfl⟩)
  refine wp_region_ext_tail 9 (by kernel_rfl) (by kernel_rfl) ?_
  simp only [List.take_succ_cons, List.take_zero, List.drop_succ_cons, List.drop_zero]
  repeat (go_big_quiet_step ((first | (go_at_call 62; exact Calls.ext_same _ (abs_any _ _)))))
  refine wpQuiet_nil ?_
  rintro _ ⟨x1, rfl⟩
  go_wp2_with (go_at_call 65; refine (fsum3_any (absF (subF a0 b0)) (absF (subF a1 b1)) (absF (subF a2 b2)) _ _ ?_ ?_ ?_).mono ?_; (go_simp); (go_simp); (go_simp); rintro e w' ⟨rfl, rfl⟩)
  go_ret
  exact ⟨rfl, Grew.of (by repeat (first | assumption | exact gr_refl _ | refine gr_alloc ?_ _ | refine gr_drew ?_ | refine gr_drewN ?_ _ | refine gr_ext ?_ _ | (refine gr_set ?_ ?_ _; rotate_left; (simp <;> omega))))⟩
def arrI (k : Nat) (a b c : Int) : Int := if k = 0 then 0 else if k = 1 then addF 0 a else if k = 2 then addF (addF 0 a) b else sum3F a b c
set_option maxHeartbeats 1000000 in
theorem rdot_any (a0 a1 a2 b0 b1 b2 : Int) (w : World) : Calls Tryd.prog 58 #[.agg #[.int .i64 a0, .int .i64 a1, .int .i64 a2], .agg #[.int .i64 b0, .int .i64 b1, .int .i64 b2]] w fun e w' => e = .returned (.int .i64 (dotF a0 a1 a2 b0 b1 b2)) ∧ Grew w w' := by
  go_enter Tryd.func58, Tryd.ntmps58
  go_wp2
  refine wp_loop_rounds 4 ?_
  rw [rounds_succ]
  go_wp2
  refine wp_region_ext_tail 9 (by kernel_rfl) (by kernel_rfl) ?_
  simp only [List.take_succ_cons, List.take_zero, List.drop_succ_cons, List.drop_zero]
  repeat (go_big_quiet_step ((first | (go_at_call 35; exact Calls.ext_same _ (rmul_any _ _ _)) | (go_at_call 40; exact Calls.ext_same _ (radd_any _ _ _)))))
  refine wpQuiet_nil ?_
  rintro _ ⟨x1, rfl⟩
  have q1 := x1.size_val
  simp at q1
  have l1 : w.heap.size < x1.val.heap.size := by omega
  have m1 : w.heap.size + 1 < x1.val.heap.size := by omega
  go_wp2
  rw [rounds_succ]
  go_wp2
  refine wp_region_ext_tail 9 (by kernel_rfl) (by kernel_rfl) ?_
  simp only [List.take_succ_cons, List.take_zero, List.drop_succ_cons, List.drop_zero]
  repeat (go_big_quiet_step ((first | (go_at_call 35; exact Calls.ext_same _ (rmul_any _ _ _)) | (go_at_call 40; exact Calls.ext_same _ (radd_any _ _ _)))))
  refine wpQuiet_nil ?_
  rintro _ ⟨x2, rfl⟩
  have q2 := x2.size_val
  try simp at q2
  have l2 : w.heap.size < x2.val.heap.size := by omega
  have m2 : w.heap.size + 1 < x2.val.heap.size := by omega
  go_wp2
  rw [rounds_succ]
  go_wp2
  refine wp_region_ext_tail 9 (by kernel_rfl) (by kernel_rfl) ?_
  simp only [List.take_succ_cons, List.take_zero, List.drop_succ_cons, List.drop_zero]
  repeat (go_big_quiet_step ((first | (go_at_call 35; exact Calls.ext_same _ (rmul_any _ _ _)) | (go_at_call 40; exact Calls.ext_same _ (radd_any _ _ _)))))
  refine wpQuiet_nil ?_
  rintro _ ⟨x3, rfl⟩
  go_wp2
  rw [rounds_succ]
  go_wp2
  go_ret
  exact ⟨rfl, Grew.of (by repeat (first | assumption | exact gr_refl _ | refine gr_alloc ?_ _ | refine gr_drew ?_ | refine gr_drewN ?_ _ | refine gr_ext ?_ _ | (refine gr_set ?_ ?_ _; rotate_left; (simp <;> omega))))⟩
theorem abs_of {a b : Int} : absF (subF a b) = if subF a b < 0 then -(subF a b) else subF a b := by unfold absF; rw [show held (subF a b) = subF a b from held_held _]
theorem abs_neg {a b : Int} (h : subF a b < 0) : absF (subF a b) = -(subF a b) := by rw [abs_of, if_pos h]
theorem abs_pos {a b : Int} (h : ¬ subF a b < 0) : absF (subF a b) = subF a b := by rw [abs_of, if_neg h]
/-- One round of ref05.Diff. -/
theorem rdiff_any (a0 a1 a2 b0 b1 b2 : Int) (w : World) : Calls Tryd.prog 37 #[.agg #[.int .i64 a0, .int .i64 a1, .int .i64 a2], .agg #[.int .i64 b0, .int .i64 b1, .int .i64 b2]] w fun e w' => e = .returned (.int .i64 (diffF a0 a1 a2 b0 b1 b2)) ∧ Grew w w' := by
  have d0 := subF_bd a0 b0
  have d1 := subF_bd a1 b1
  have d2 := subF_bd a2 b2
  have e0 : (subF a0 b0 < 0 → absF (subF a0 b0) = -(subF a0 b0)) ∧ (¬ subF a0 b0 < 0 → absF (subF a0 b0) = subF a0 b0) := ⟨abs_neg, abs_pos⟩
  have e1 : (subF a1 b1 < 0 → absF (subF a1 b1) = -(subF a1 b1)) ∧ (¬ subF a1 b1 < 0 → absF (subF a1 b1) = subF a1 b1) := ⟨abs_neg, abs_pos⟩
  have e2 : (subF a2 b2 < 0 → absF (subF a2 b2) = -(subF a2 b2)) ∧ (¬ subF a2 b2 < 0 → absF (subF a2 b2) = subF a2 b2) := ⟨abs_neg, abs_pos⟩
  have E0 := Lib.hid e0
  have E1 := Lib.hid e1
  have E2 := Lib.hid e2
  have D : Hid (diffF a0 a1 a2 b0 b1 b2 = sum3F (absF (subF a0 b0)) (absF (subF a1 b1)) (absF (subF a2 b2))) := Lib.hid rfl
  clear e0 e1 e2
  generalize h0 : subF a0 b0 = x0 at *
  generalize h1 : subF a1 b1 = x1 at *
  generalize h2 : subF a2 b2 = x2 at *
  have H0 := Lib.hid h0
  have H1 := Lib.hid h1
  have H2 := Lib.hid h2
  clear h0 h1 h2
  go_enter Tryd.func37, Tryd.ntmps37
  go_wp2_with fail
  refine (rhsub_any _ _ _ _ _ _ _).mono ?_
  rintro e w' ⟨rfl, y0, rfl⟩
  rw [H0.out, H1.out, H2.out]
  go_wp2
  refine wp_loop_rounds 4 ?_
  rw [rounds_succ]
  by_cases g0 : x0 < 0
  all_goals
    go_wp2_with (go_at_call 40; refine (radd_any _ _ _).mono ?_; rintro e w' ⟨rfl, rfl⟩)
    rw [rounds_succ]
    by_cases g1 : x1 < 0
    all_goals
      go_wp2_with (go_at_call 40; refine (radd_any _ _ _).mono ?_; rintro e w' ⟨rfl, rfl⟩)
      rw [rounds_succ]
      by_cases g2 : x2 < 0
      all_goals
        go_wp2_with (go_at_call 40; refine (radd_any _ _ _).mono ?_; rintro e w' ⟨rfl, rfl⟩)
        rw [rounds_succ]
        go_wp2
        go_ret
        refine ⟨ret_i ?_, Grew.of (by repeat (first | assumption | exact gr_refl _ | refine gr_alloc ?_ _ | refine gr_drew ?_ | refine gr_drewN ?_ _ | refine gr_ext ?_ _ | (refine gr_set ?_ ?_ _; rotate_left; (simp <;> omega))))⟩
        rw [D.out]
        first | rw [E0.out.1 g0] | rw [E0.out.2 g0]
        first | rw [E1.out.1 g1] | rw [E1.out.2 g1]
        first | rw [E2.out.1 g2] | rw [E2.out.2 g2]
        rfl
end Go.Proofs.YtneegcnidoopmaaDoor
