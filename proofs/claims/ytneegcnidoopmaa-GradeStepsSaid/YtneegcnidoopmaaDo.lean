/- Contract of ref39.Do: a step done to a light. Conditions: the pins lie behind the slice. -/
import Derived.Test.YtneegcnidoopmaaRd
namespace Go.Proofs.Ytneegcnidoopmaa
open Go.RowKit

/-- A step's answer, of the light's number j (h its own three, b the tint's three). -/
noncomputable def stepF (kind : Int) (X Y : Nat → Int) (n : Nat) (a b : Int) (t h l : Int) : Int :=
  if kind = 0 then curveAt X Y n h else if kind = 1 then mulF h a else if kind = 2 then mulF h t else if kind = 3 then lerpF h l a else if kind = 4 then addF a (mulF (subF h a) b) else h

set_option maxHeartbeats 2000000 in
theorem rdo_any (kind a b t0 t1 t2 h0 h1 h2 : Int) (A : Option Addr) (n cap : Nat) (X Y : Nat → Int) (w : World) (hn : n ≤ 9223372036854775806) (hc : Cells2 w A n X Y) :
    Calls Try.prog 77 #[.agg #[.int .i64 kind, .slice A n cap, .int .i64 a, .int .i64 b, .int .i64 t0, .int .i64 t1, .int .i64 t2], .agg #[.int .i64 h0, .int .i64 h1, .int .i64 h2]] w fun e w' =>
      e = .returned (.agg #[.int .i64 (stepF kind X Y n a b t0 h0 (lumaF h0 h1 h2)), .int .i64 (stepF kind X Y n a b t1 h1 (lumaF h0 h1 h2)), .int .i64 (stepF kind X Y n a b t2 h2 (lumaF h0 h1 h2))]) ∧ Grew w w' := by
  have HC := Lib.hid hc
  clear hc
  by_cases k0 : kind = 0
  · subst k0
    go_enter Try.func77, Try.ntmps77
    go_wp2_with (go_at_call 118; refine (rthrough_any A n cap X Y _ _ _ _ hn (HC.out.below ((by repeat (first | assumption | exact gr_refl _ | refine gr_alloc ?_ _ | refine gr_drew ?_ | refine gr_drewN ?_ _ | refine gr_ext ?_ _ | (refine gr_set ?_ ?_ _; rotate_left; (simp <;> omega))))))).mono ?_; rintro e w' ⟨rfl, x1, rfl⟩)
    exact bodyPost_ret (v := .agg #[.int .i64 (curveAt X Y n h0), .int .i64 (curveAt X Y n h1), .int .i64 (curveAt X Y n h2)]) (by simp [results, Try.results77, go_sem]) rfl ⟨rfl, Grew.of (by repeat (first | assumption | exact gr_refl _ | refine gr_alloc ?_ _ | refine gr_drew ?_ | refine gr_drewN ?_ _ | refine gr_ext ?_ _ | (refine gr_set ?_ ?_ _; rotate_left; (simp <;> omega))))⟩
  · by_cases k1 : kind = 1
    · subst k1
      go_enter Try.func77, Try.ntmps77
      go_wp2_with (go_at_call 119; refine (rscale_any _ _ _ _ _).mono ?_; rintro e w' ⟨rfl, x1, rfl⟩)
      exact bodyPost_ret (v := .agg #[.int .i64 (stepF 1 X Y n a b t0 h0 (lumaF h0 h1 h2)), .int .i64 (stepF 1 X Y n a b t1 h1 (lumaF h0 h1 h2)), .int .i64 (stepF 1 X Y n a b t2 h2 (lumaF h0 h1 h2))]) (by simp [results, Try.results77, go_sem, stepF]) rfl ⟨rfl, Grew.of (by repeat (first | assumption | exact gr_refl _ | refine gr_alloc ?_ _ | refine gr_drew ?_ | refine gr_drewN ?_ _ | refine gr_ext ?_ _ | (refine gr_set ?_ ?_ _; rotate_left; (simp <;> omega))))⟩
    · by_cases k2 : kind = 2
      · subst k2
        go_enter Try.func77, Try.ntmps77
        go_wp2_with (go_at_call 120; refine (rhmul_any _ _ _ _ _ _ _).mono ?_; rintro e w' ⟨rfl, x1, rfl⟩)
        exact bodyPost_ret (v := .agg #[.int .i64 (stepF 2 X Y n a b t0 h0 (lumaF h0 h1 h2)), .int .i64 (stepF 2 X Y n a b t1 h1 (lumaF h0 h1 h2)), .int .i64 (stepF 2 X Y n a b t2 h2 (lumaF h0 h1 h2))]) (by simp [results, Try.results77, go_sem, stepF]) rfl ⟨rfl, Grew.of (by repeat (first | assumption | exact gr_refl _ | refine gr_alloc ?_ _ | refine gr_drew ?_ | refine gr_drewN ?_ _ | refine gr_ext ?_ _ | (refine gr_set ?_ ?_ _; rotate_left; (simp <;> omega))))⟩
      · by_cases k3 : kind = 3
        · subst k3
          go_enter Try.func77, Try.ntmps77
          go_wp2_with (go_at_call 121; refine (rfade_any _ _ _ _ _).mono ?_; rintro e w' ⟨rfl, x1, rfl⟩)
          exact bodyPost_ret (v := .agg #[.int .i64 (stepF 3 X Y n a b t0 h0 (lumaF h0 h1 h2)), .int .i64 (stepF 3 X Y n a b t1 h1 (lumaF h0 h1 h2)), .int .i64 (stepF 3 X Y n a b t2 h2 (lumaF h0 h1 h2))]) (by simp [results, Try.results77, go_sem, stepF]) rfl ⟨rfl, Grew.of (by repeat (first | assumption | exact gr_refl _ | refine gr_alloc ?_ _ | refine gr_drew ?_ | refine gr_drewN ?_ _ | refine gr_ext ?_ _ | (refine gr_set ?_ ?_ _; rotate_left; (simp <;> omega))))⟩
        · by_cases k4 : kind = 4
          · subst k4
            go_enter Try.func77, Try.ntmps77
            go_wp2_with (go_at_call 122; refine (rcontrast_any _ _ _ _ _ _).mono ?_; rintro e w' ⟨rfl, x1, rfl⟩)
            exact bodyPost_ret (v := .agg #[.int .i64 (stepF 4 X Y n a b t0 h0 (lumaF h0 h1 h2)), .int .i64 (stepF 4 X Y n a b t1 h1 (lumaF h0 h1 h2)), .int .i64 (stepF 4 X Y n a b t2 h2 (lumaF h0 h1 h2))]) (by simp [results, Try.results77, go_sem, stepF]) rfl ⟨rfl, Grew.of (by repeat (first | assumption | exact gr_refl _ | refine gr_alloc ?_ _ | refine gr_drew ?_ | refine gr_drewN ?_ _ | refine gr_ext ?_ _ | (refine gr_set ?_ ?_ _; rotate_left; (simp <;> omega))))⟩
          · have e : ∀ t h l, stepF kind X Y n a b t h l = h := fun t h l => by unfold stepF; rw [if_neg k0, if_neg k1, if_neg k2, if_neg k3, if_neg k4]
            rw [e, e, e]
            go_enter Try.func77, Try.ntmps77
            go_wp2
            exact bodyPost_ret (v := .agg #[.int .i64 h0, .int .i64 h1, .int .i64 h2]) (by simp [results, Try.results77, go_sem]) rfl ⟨rfl, Grew.of (by repeat (first | assumption | exact gr_refl _ | refine gr_alloc ?_ _ | refine gr_drew ?_ | refine gr_drewN ?_ _ | refine gr_ext ?_ _ | (refine gr_set ?_ ?_ _; rotate_left; (simp <;> omega))))⟩
end Go.Proofs.Ytneegcnidoopmaa
