/- The plain side of lace: a pixel's sums. No program in sight. -/
import Derived.Test.YtneegcnidoopmaaDoorLd
namespace Go.Proofs.YtneegcnidoopmaaDoor
open Go.RowKit

structure Acc where
  r : Int
  g : Int
  b : Int
  t : Int
/-- What a smoothing knows: the film, the lights, the level, the size. -/
structure Env where
  f : Flm
  R : Nat → Int
  G : Nat → Int
  B : Nat → Int
  l : Nat
  W : Int
  H : Int
def Env.wt (e : Env) (i k : Nat) (ac dn : Int) : Int := e.f.wt e.R e.G e.B e.l i k ac dn
/-- One neighbour's light and weight, added. -/
def Env.add (e : Env) (i k : Nat) (ac dn : Int) (s : Acc) : Acc := ⟨addF s.r (mulF (e.R k) (e.wt i k ac dn)), addF s.g (mulF (e.G k) (e.wt i k ac dn)), addF s.b (mulF (e.B k) (e.wt i k ac dn)), addF s.t (e.wt i k ac dn)⟩
def Env.tap (e : Env) (i : Nat) (x y ac dn : Int) (s : Acc) : Acc :=
  if 0 ≤ x + ac * pw e.l ∧ x + ac * pw e.l < e.W ∧ 0 ≤ y + dn * pw e.l ∧ y + dn * pw e.l < e.H then e.add i ((y + dn * pw e.l) * e.W + (x + ac * pw e.l)).toNat ac dn s else s
theorem tap_in {e : Env} {i k : Nat} {x y ac dn : Int} {s : Acc} {u v : Int} (hu : x + ac * pw e.l = u) (hv : y + dn * pw e.l = v) (h1 : 0 ≤ u) (h2 : u < e.W) (h3 : 0 ≤ v) (h4 : v < e.H) (hk : v * e.W + u = k) : e.tap i x y ac dn s = e.add i k ac dn s := by
  unfold Env.tap
  rw [hu, hv, if_pos ⟨h1, h2, h3, h4⟩, hk]
  rfl
theorem tap_out {e : Env} {i : Nat} {x y ac dn : Int} {s : Acc} {u v : Int} (hu : x + ac * pw e.l = u) (hv : y + dn * pw e.l = v) (h : ¬ (0 ≤ u ∧ u < e.W ∧ 0 ≤ v ∧ v < e.H)) : e.tap i x y ac dn s = s := by
  unfold Env.tap
  rw [hu, hv, if_neg h]
/-- q taps of row p behind s. -/
def Env.row (e : Env) (i : Nat) (x y : Int) (p : Nat) (s : Acc) : Nat → Acc
  | 0 => s
  | q + 1 => e.tap i x y (q - 2) (p - 2) (e.row i x y p s q)
/-- p rows. -/
def Env.rows (e : Env) (i : Nat) (x y : Int) : Nat → Acc
  | 0 => ⟨0, 0, 0, 0⟩
  | p + 1 => e.row i x y p (e.rows i x y p) 5
theorem row_succ (e : Env) (i : Nat) (x y : Int) (p q : Nat) (s : Acc) : e.row i x y p s (q + 1) = e.tap i x y (q - 2) (p - 2) (e.row i x y p s q) := rfl
theorem rows_succ (e : Env) (i : Nat) (x y : Int) (p : Nat) : e.rows i x y (p + 1) = e.row i x y p (e.rows i x y p) 5 := rfl

theorem addF_up {a b : Int} (h0 : 0 ≤ a) (h1 : a ≤ 2147483648) (hb : 0 ≤ b) : a ≤ addF a b := by
  unfold addF
  have := held_nonneg hb
  rw [held_in (n := a) (by omega) h1]
  unfold held
  split <;> (try split) <;> omega
theorem tap_up (e : Env) (hl : e.l ≤ 4) (i : Nat) (x y ac dn : Int) (s : Acc) (h0 : 0 ≤ s.t) (h1 : s.t ≤ 2147483648) : s.t ≤ (e.tap i x y ac dn s).t ∧ (e.tap i x y ac dn s).t ≤ 2147483648 := by
  unfold Env.tap
  split
  · exact ⟨addF_up h0 h1 (wt_nonneg _ _ _ _ hl ..), (addF_bd ..).2⟩
  · exact ⟨Int.le_refl _, h1⟩
theorem row_up (e : Env) (hl : e.l ≤ 4) (i : Nat) (x y : Int) (p : Nat) (s : Acc) (h0 : 0 ≤ s.t) (h1 : s.t ≤ 2147483648) : ∀ q, s.t ≤ (e.row i x y p s q).t ∧ (e.row i x y p s q).t ≤ 2147483648
  | 0 => ⟨Int.le_refl _, h1⟩
  | q + 1 => by
    have a := row_up e hl i x y p s h0 h1 q
    have b := tap_up e hl i x y (q - 2) (p - 2) (e.row i x y p s q) (by omega) a.2
    rw [row_succ]
    omega
theorem rows_bd (e : Env) (hl : e.l ≤ 4) (i : Nat) (x y : Int) : ∀ p, 0 ≤ (e.rows i x y p).t ∧ (e.rows i x y p).t ≤ 2147483648
  | 0 => by show (0 : Int) ≤ 0 ∧ (0 : Int) ≤ 2147483648; omega
  | p + 1 => by
    have a := rows_bd e hl i x y p
    have b := row_up e hl i x y p (e.rows i x y p) a.1 a.2 5
    rw [rows_succ]
    omega
theorem wt_self (e : Env) (i : Nat) : e.wt i i 0 0 = 2359296 := by
  unfold Env.wt
  rw [wt_same rfl]
  decide
/-- The sum of the weights is above nothing: the pixel itself counts. -/
theorem rows_pos (e : Env) (hl : e.l ≤ 4) (i : Nat) (x y : Int) (hx0 : 0 ≤ x) (hx1 : x < e.W) (hy0 : 0 ≤ y) (hy1 : y < e.H) (hi : y * e.W + x = i) : 0 < (e.rows i x y 5).t := by
  have b2 := rows_bd e hl i x y 2
  have r2 := row_up e hl i x y 2 (e.rows i x y 2) b2.1 b2.2 2
  have ev : e.row i x y 2 (e.rows i x y 2) 3 = e.add i i 0 0 (e.row i x y 2 (e.rows i x y 2) 2) := by
    rw [row_succ]
    exact tap_in (u := x) (v := y) (by simp) (by simp) hx0 hx1 hy0 hy1 hi
  have e3 : (e.row i x y 2 (e.rows i x y 2) 3).t = addF (e.row i x y 2 (e.rows i x y 2) 2).t 2359296 := by
    rw [ev]
    show addF _ (e.wt i i 0 0) = _
    rw [wt_self]
  have p3 : 0 < (e.row i x y 2 (e.rows i x y 2) 3).t := by
    rw [e3]
    unfold addF
    rw [held_in (n := (e.row i x y 2 (e.rows i x y 2) 2).t) (by omega) (by omega), held_in (n := 2359296) (by omega) (by omega)]
    exact held_pos (by omega)
  have r3 := row_up e hl i x y 2 (e.rows i x y 2) b2.1 b2.2 3
  have t4 := tap_up e hl i x y ((3 : Nat) - 2) ((2 : Nat) - 2) _ (by omega) r3.2
  rw [← row_succ] at t4
  have t5 := tap_up e hl i x y ((4 : Nat) - 2) ((2 : Nat) - 2) _ (by omega) t4.2
  rw [← row_succ] at t5
  have t6 := row_up e hl i x y 3 (e.rows i x y 3) (rows_bd e hl i x y 3).1 (rows_bd e hl i x y 3).2 5
  rw [← rows_succ] at t6
  have t7 := row_up e hl i x y 4 (e.rows i x y 4) (rows_bd e hl i x y 4).1 (rows_bd e hl i x y 4).2 5
  rw [← rows_succ] at t7
  rw [rows_succ e i x y 2] at t6
  have f1 : (e.rows i x y (3 + 1)).t = (e.rows i x y 4).t := rfl
  have f2 : (e.rows i x y (4 + 1)).t = (e.rows i x y 5).t := rfl
  have f3 : (e.row i x y 2 (e.rows i x y 2) (3 + 1)).t = (e.row i x y 2 (e.rows i x y 2) 4).t := rfl
  have f4 : (e.row i x y 2 (e.rows i x y 2) (4 + 1)).t = (e.row i x y 2 (e.rows i x y 2) 5).t := rfl
  omega
/-- A pixel, smoothed. -/
def Env.px (e : Env) (i : Nat) (x y : Int) : Int × Int × Int := (divP (e.rows i x y 5).r (e.rows i x y 5).t, divP (e.rows i x y 5).g (e.rows i x y 5).t, divP (e.rows i x y 5).b (e.rows i x y 5).t)
end Go.Proofs.YtneegcnidoopmaaDoor
