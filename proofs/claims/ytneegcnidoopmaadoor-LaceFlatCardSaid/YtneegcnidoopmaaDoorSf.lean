/- The plain side of lace's second law: lights that are alike stay so, but for a unit a level. No program in sight. -/
import Derived.Test.YtneegcnidoopmaaDoorLm
namespace Go.Proofs.YtneegcnidoopmaaDoor
open Go.RowKit

theorem divP_le {x : Int} (hx : 65536 ≤ x) : divP 65536 x ≤ 65536 := by
  unfold divP
  have h1 : 65536 ≤ held x := by unfold held; split <;> (try split) <;> omega
  rw [held_in (n := 65536) (by omega) (by omega)]
  have h2 : (65536 : Int) * 65536 / held x ≤ 65536 := Int.ediv_le_of_le_mul (by omega) (Int.mul_le_mul_of_nonneg_left h1 (by omega))
  have h3 : 0 ≤ (65536 : Int) * 65536 / held x := Int.ediv_nonneg (by omega) (by omega)
  rw [held_in (by omega) (by omega)]
  exact h2
theorem one_up {y : Int} (hy : 0 ≤ y) : 65536 ≤ addF 65536 y := by
  unfold addF
  have := held_nonneg hy
  rw [held_in (n := 65536) (by omega) (by omega)]
  unfold held at *
  split <;> (try split) <;> omega
theorem mul_unit {a b c : Int} (ha0 : 0 ≤ a) (ha : a ≤ c) (hc : c ≤ 2359296) (hb0 : 0 ≤ b) (hb : b ≤ 65536) : mulF a b ≤ c := by
  unfold mulF
  rw [held_in (n := a) (by omega) (by omega), held_in (n := b) (by omega) (by omega)]
  have h1 := Int.mul_le_mul ha hb hb0 (by omega)
  have h2 := Int.mul_nonneg ha0 hb0
  have h3 : a * b / 65536 ≤ c := by omega
  have h4 : 0 ≤ a * b / 65536 := by omega
  rw [held_in (by omega) (by omega)]
  exact h3
theorem nearF_le (l : Nat) (hl : l ≤ 4) (a0 a1 a2 b0 b1 b2 : Int) : nearF l a0 a1 a2 b0 b1 b2 ≤ 65536 := divP_le (one_up (mulF_nonneg (by have := pw_bd hl; omega) (diffF_nonneg ..)))
theorem like_le (f : Flm) (i k : Nat) : f.like i k ≤ 65536 := by
  unfold Flm.like
  split <;> split <;> try omega
  unfold Flm.near
  have u := unitF_bd (dotF (f.nx i) (f.ny i) (f.nz i) (f.nx k) (f.ny k) (f.nz k))
  have y : 0 ≤ mulF 262144 (absF (subF (f.d i) (f.d k))) := mulF_nonneg (by omega) (absF_bd _).1
  exact mul_unit u.1 u.2 (by omega) (divP_nonneg (by omega) (by have := one_up y; omega)) (divP_le (one_up y))
theorem wt_le (f : Flm) (R G B : Nat → Int) {l : Nat} (hl : l ≤ 4) (i k : Nat) (ac dn : Int) : f.wt R G B l i k ac dn ≤ 2359296 := by
  have t := tapF_mul ac dn
  unfold Flm.wt
  have hn := nearF_nonneg l hl (R i) (G i) (B i) (R k) (G k) (B k)
  have hm := mul_unit (like_nonneg f i k) (like_le f i k) (by omega) hn (nearF_le l hl (R i) (G i) (B i) (R k) (G k) (B k))
  split
  · exact mul_unit (by omega) (by omega) (by omega) (by omega) (by omega)
  · exact mul_unit (by omega) (by omega) (by omega) (mulF_nonneg (like_nonneg ..) hn) hm

/-- A sum of lights between two, so far: j taps. -/
def Ch (lo hi j c t : Int) : Prop := 0 ≤ c ∧ c ≤ 37748736 * j ∧ 65536 * c ≤ hi * t ∧ lo * t ≤ 65536 * c + 65536 * j
theorem Ch.more {lo hi j c t : Int} (h : Ch lo hi j c t) : Ch lo hi (j + 1) c t := by obtain ⟨h1, h2, h3, h4⟩ := h; exact ⟨h1, by omega, h3, by omega⟩
theorem Ch.add {lo hi j c t L w : Int} (h : Ch lo hi j c t) (hj : j ≤ 24) (h0 : 0 ≤ lo) (h1 : hi ≤ 1048576) (hL0 : lo ≤ L) (hL1 : L ≤ hi) (hw0 : 0 ≤ w) (hw1 : w ≤ 2359296) : Ch lo hi (j + 1) (addF c (mulF L w)) (t + w) := by
  obtain ⟨c0, c1, c2, c3⟩ := h
  have p0 := Int.mul_le_mul_of_nonneg_right hL0 hw0
  have p1 := Int.mul_le_mul_of_nonneg_right hL1 hw0
  have p2 := Int.mul_le_mul (show L ≤ 1048576 by omega) hw1 hw0 (by omega)
  have p3 : 0 ≤ L * w := Int.mul_nonneg (by omega) hw0
  have em : mulF L w = L * w / 65536 := by
    unfold mulF
    rw [held_in (n := L) (by omega) (by omega), held_in (n := w) (by omega) (by omega), held_in (by omega) (by omega)]
  have ea : addF c (L * w / 65536) = c + L * w / 65536 := by
    unfold addF
    rw [held_in (n := c) (by omega) (by omega), held_in (n := L * w / 65536) (by omega) (by omega), held_in (by omega) (by omega)]
  rw [em, ea]
  refine ⟨by omega, by omega, ?_, ?_⟩
  · rw [Int.mul_add hi t w]; omega
  · rw [Int.mul_add lo t w]; omega
theorem Ch.out {lo hi c t : Int} (h : Ch lo hi 25 c t) (ht : 2359296 ≤ t) (ht2 : t ≤ 58982400) (_ : 0 ≤ lo) (h1 : hi ≤ 1048576) : 0 ≤ divP c t ∧ lo - 1 ≤ divP c t ∧ divP c t ≤ hi := by
  obtain ⟨c0, c1, c2, c3⟩ := h
  have a1 : c * 65536 / t ≤ hi := Int.ediv_le_of_le_mul (by omega) (by omega)
  have a2 : 0 ≤ c * 65536 / t := Int.ediv_nonneg (by omega) (by omega)
  have a3 : lo - 1 ≤ c * 65536 / t := Int.le_ediv_of_mul_le (by omega) (by rw [Int.sub_mul]; omega)
  unfold divP
  rw [held_in (n := c) (by omega) (by omega), held_in (n := t) (by omega) (by omega), held_in (by omega) (by omega)]
  exact ⟨a2, a3, a1⟩

/-- Bounds on the lights of a picture. -/
structure Bd where
  lo0 : Int
  hi0 : Int
  lo1 : Int
  hi1 : Int
  lo2 : Int
  hi2 : Int
def Bd.ok (b : Bd) : Prop := 0 ≤ b.lo0 ∧ b.hi0 ≤ 1048576 ∧ 0 ≤ b.lo1 ∧ b.hi1 ≤ 1048576 ∧ 0 ≤ b.lo2 ∧ b.hi2 ≤ 1048576
def Bd.has (b : Bd) (r g bl : Int) : Prop := (b.lo0 ≤ r ∧ r ≤ b.hi0) ∧ (b.lo1 ≤ g ∧ g ≤ b.hi1) ∧ b.lo2 ≤ bl ∧ bl ≤ b.hi2
def Good (b : Bd) (j : Nat) (s : Acc) : Prop := 0 ≤ s.t ∧ s.t ≤ 2359296 * j ∧ Ch b.lo0 b.hi0 j s.r s.t ∧ Ch b.lo1 b.hi1 j s.g s.t ∧ Ch b.lo2 b.hi2 j s.b s.t
theorem good_tap {b : Bd} (hb : b.ok) {e : Env} (hl : e.l ≤ 4) {n : Nat} (hn : (n : Int) = e.W * e.H) (hE : ∀ k, k < n → b.has (e.R k) (e.G k) (e.B k)) {j : Nat} (hj : j ≤ 24) {s : Acc} (h : Good b j s) (i : Nat) (x y ac dn : Int) : Good b (j + 1) (e.tap i x y ac dn s) := by
  obtain ⟨t0, t1, hr, hg, hbl⟩ := h
  obtain ⟨o0, o1, o2, o3, o4, o5⟩ := hb
  unfold Env.tap
  split
  · rename_i hc
    obtain ⟨u0, u1, v0, v1⟩ := hc
    generalize x + ac * pw e.l = u at *
    generalize y + dn * pw e.l = v at *
    have q0 : 0 ≤ v * e.W := Int.mul_nonneg v0 (by omega)
    have q1 : v * e.W ≤ (e.H - 1) * e.W := Int.mul_le_mul_of_nonneg_right (by omega) (by omega)
    rw [Int.sub_mul, Int.mul_comm e.H e.W, Int.one_mul] at q1
    obtain ⟨⟨k0, k1⟩, ⟨k2, k3⟩, k4, k5⟩ := hE (v * e.W + u).toNat (by omega)
    generalize (v * e.W + u).toNat = k at *
    have w0 : 0 ≤ e.wt i k ac dn := wt_nonneg _ _ _ _ hl ..
    have w1 : e.wt i k ac dn ≤ 2359296 := wt_le _ _ _ _ hl ..
    have et : addF s.t (e.wt i k ac dn) = s.t + e.wt i k ac dn := by
      unfold addF
      rw [held_in (n := s.t) (by omega) (by omega), held_in (n := e.wt i k ac dn) (by omega) (by omega), held_in (by omega) (by omega)]
    unfold Env.add
    rw [et]
    refine ⟨by show 0 ≤ s.t + _; omega, by show s.t + _ ≤ _; omega, ?_, ?_, ?_⟩
    · have := hr.add (by omega) o0 o1 k0 k1 w0 w1; exact this
    · have := hg.add (by omega) o2 o3 k2 k3 w0 w1; exact this
    · have := hbl.add (by omega) o4 o5 k4 k5 w0 w1; exact this
  · exact ⟨t0, by omega, hr.more, hg.more, hbl.more⟩
theorem good_row {b : Bd} (hb : b.ok) {e : Env} (hl : e.l ≤ 4) {n : Nat} (hn : (n : Int) = e.W * e.H) (hE : ∀ k, k < n → b.has (e.R k) (e.G k) (e.B k)) (i : Nat) (x y : Int) (p : Nat) {s : Acc} {j : Nat} (h : Good b j s) : ∀ q, j + q ≤ 25 → Good b (j + q) (e.row i x y p s q)
  | 0, _ => h
  | q + 1, hq => by
    have ih := good_row hb hl hn hE i x y p h q (by omega)
    rw [row_succ]
    exact good_tap hb hl hn hE (by omega) ih ..
theorem good_rows {b : Bd} (hb : b.ok) {e : Env} (hl : e.l ≤ 4) {n : Nat} (hn : (n : Int) = e.W * e.H) (hE : ∀ k, k < n → b.has (e.R k) (e.G k) (e.B k)) (i : Nat) (x y : Int) : ∀ p, p ≤ 5 → Good b (5 * p) (e.rows i x y p)
  | 0, _ => by
    refine ⟨Int.le_refl _, by show (0 : Int) ≤ _; omega, ?_, ?_, ?_⟩ <;> exact ⟨Int.le_refl _, by show (0 : Int) ≤ _; omega, by show (65536 : Int) * 0 ≤ _ * 0; omega, by show _ * (0 : Int) ≤ 65536 * 0 + _; omega⟩
  | p + 1, hp => by
    have ih := good_rows hb hl hn hE i x y p (by omega)
    have := good_row hb hl hn hE i x y p ih 5 (by omega)
    rw [rows_succ]
    exact this
/-- The pixel itself counts. -/
theorem rows_big (e : Env) (hl : e.l ≤ 4) (i : Nat) (x y : Int) (hx0 : 0 ≤ x) (hx1 : x < e.W) (hy0 : 0 ≤ y) (hy1 : y < e.H) (hi : y * e.W + x = i) : 2359296 ≤ (e.rows i x y 5).t := by
  have b2 := rows_bd e hl i x y 2
  have r2 := row_up e hl i x y 2 (e.rows i x y 2) b2.1 b2.2 2
  have ev : e.row i x y 2 (e.rows i x y 2) 3 = e.add i i 0 0 (e.row i x y 2 (e.rows i x y 2) 2) := by
    rw [row_succ]
    exact tap_in (u := x) (v := y) (by simp) (by simp) hx0 hx1 hy0 hy1 hi
  have e3 : (e.row i x y 2 (e.rows i x y 2) 3).t = addF (e.row i x y 2 (e.rows i x y 2) 2).t 2359296 := by
    rw [ev]
    show addF _ (e.wt i i 0 0) = _
    rw [wt_self]
  have p3 : 2359296 ≤ (e.row i x y 2 (e.rows i x y 2) 3).t := by
    rw [e3]
    unfold addF
    rw [held_in (n := (e.row i x y 2 (e.rows i x y 2) 2).t) (by omega) (by omega), held_in (n := 2359296) (by omega) (by omega)]
    unfold held
    split <;> (try split) <;> omega
  have r3 := row_up e hl i x y 2 (e.rows i x y 2) b2.1 b2.2 3
  have t4 := tap_up e hl i x y ((3 : Nat) - 2) ((2 : Nat) - 2) _ (by omega) r3.2
  rw [← row_succ] at t4
  have t5 := tap_up e hl i x y ((4 : Nat) - 2) ((2 : Nat) - 2) _ (by omega) t4.2
  rw [← row_succ] at t5
  have t6 := row_up e hl i x y 3 (e.rows i x y 3) (rows_bd e hl i x y 3).1 (rows_bd e hl i x y 3).2 5
  rw [← rows_succ] at t6
  have t7 := row_up e hl i x y 4 (e.rows i x y 4) (rows_bd e hl i x y 4).1 (rows_bd e hl i x y 4).2 5
  rw [← rows_succ] at t7
  rw [rows_succ e i x y 2] at t6
  have f1 : (e.rows i x y (3 + 1)).t = (e.rows i x y 4).t := rfl
  have f2 : (e.rows i x y (4 + 1)).t = (e.rows i x y 5).t := rfl
  have f3 : (e.row i x y 2 (e.rows i x y 2) (3 + 1)).t = (e.row i x y 2 (e.rows i x y 2) 4).t := rfl
  have f4 : (e.row i x y 2 (e.rows i x y 2) (4 + 1)).t = (e.row i x y 2 (e.rows i x y 2) 5).t := rfl
  omega
/-- One level. -/
theorem at_has {b : Bd} (hb : b.ok) {e : Env} (hl : e.l ≤ 4) (hW : 0 < e.W) {n : Nat} (hn : (n : Int) = e.W * e.H) (hE : ∀ k, k < n → b.has (e.R k) (e.G k) (e.B k)) (i : Nat) (hi : i < n) :
    (0 ≤ (e.at i).1 ∧ b.lo0 - 1 ≤ (e.at i).1 ∧ (e.at i).1 ≤ b.hi0) ∧ (0 ≤ (e.at i).2.1 ∧ b.lo1 - 1 ≤ (e.at i).2.1 ∧ (e.at i).2.1 ≤ b.hi1) ∧ (0 ≤ (e.at i).2.2 ∧ b.lo2 - 1 ≤ (e.at i).2.2 ∧ (e.at i).2.2 ≤ b.hi2) := by
  have x0 := Int.emod_nonneg (i : Int) (show e.W ≠ 0 by omega)
  have x1 := Int.emod_lt_of_pos (i : Int) hW
  have y0 : 0 ≤ (i : Int) / e.W := Int.ediv_nonneg (by omega) (by omega)
  have y1 : (i : Int) / e.W < e.H := Int.ediv_lt_of_lt_mul hW (by rw [Int.mul_comm]; omega)
  have ei : (i : Int) / e.W * e.W + (i : Int) % e.W = i := Int.ediv_mul_add_emod ..
  have g := good_rows hb hl hn hE i ((i : Int) % e.W) ((i : Int) / e.W) 5 (by omega)
  have big := rows_big e hl i _ _ x0 x1 y0 y1 ei
  obtain ⟨_, t1, hr, hg, hbl⟩ := g
  obtain ⟨o0, o1, o2, o3, o4, o5⟩ := hb
  exact ⟨hr.out big (by omega) o0 o1, hg.out big (by omega) o2 o3, hbl.out big (by omega) o4 o5⟩
/-- All levels. -/
theorem flat_has (f : Flm) (W H : Int) (hW : 0 < W) {n : Nat} (hn : (n : Int) = W * H) (h0 h1 h2 : Int) (a0 : 0 ≤ h0) (a1 : 0 ≤ h1) (a2 : 0 ≤ h2) (b0 : h0 ≤ 1048576) (b1 : h1 ≤ 1048576) (b2 : h2 ≤ 1048576) : ∀ l, l ≤ 5 → ∀ i, i < n →
    (0 ≤ (smo f W H (fun _ => (h0, h1, h2)) l i).1 ∧ h0 - l ≤ (smo f W H (fun _ => (h0, h1, h2)) l i).1 ∧ (smo f W H (fun _ => (h0, h1, h2)) l i).1 ≤ h0) ∧
    (0 ≤ (smo f W H (fun _ => (h0, h1, h2)) l i).2.1 ∧ h1 - l ≤ (smo f W H (fun _ => (h0, h1, h2)) l i).2.1 ∧ (smo f W H (fun _ => (h0, h1, h2)) l i).2.1 ≤ h1) ∧
    (0 ≤ (smo f W H (fun _ => (h0, h1, h2)) l i).2.2 ∧ h2 - l ≤ (smo f W H (fun _ => (h0, h1, h2)) l i).2.2 ∧ (smo f W H (fun _ => (h0, h1, h2)) l i).2.2 ≤ h2)
  | 0, _, i, _ => by
    show (0 ≤ h0 ∧ h0 - _ ≤ h0 ∧ h0 ≤ h0) ∧ (0 ≤ h1 ∧ h1 - _ ≤ h1 ∧ h1 ≤ h1) ∧ (0 ≤ h2 ∧ h2 - _ ≤ h2 ∧ h2 ≤ h2)
    omega
  | l + 1, hl, i, hi => by
    have ih := flat_has f W H hW hn h0 h1 h2 a0 a1 a2 b0 b1 b2 l (by omega)
    let b : Bd := ⟨max (h0 - l) 0, h0, max (h1 - l) 0, h1, max (h2 - l) 0, h2⟩
    have hb : b.ok := ⟨by show 0 ≤ max (h0 - l) 0; omega, b0, by show 0 ≤ max (h1 - l) 0; omega, b1, by show 0 ≤ max (h2 - l) 0; omega, b2⟩
    have := at_has (e := envOf f W H (smo f W H (fun _ => (h0, h1, h2)) l) l) hb (by show l ≤ 4; omega) hW hn (fun k hk => by
      obtain ⟨⟨p0, p1, p2⟩, ⟨q0, q1, q2⟩, r0, r1, r2⟩ := ih k hk
      exact ⟨⟨by show max (h0 - l) 0 ≤ (smo f W H _ l k).1; omega, p2⟩, ⟨by show max (h1 - l) 0 ≤ (smo f W H _ l k).2.1; omega, q2⟩, by show max (h2 - l) 0 ≤ (smo f W H _ l k).2.2; omega, r2⟩) i hi
    obtain ⟨⟨p0, p1, p2⟩, ⟨q0, q1, q2⟩, r0, r1, r2⟩ := this
    have c0 : max (h0 - l) 0 - 1 ≤ ((envOf f W H (smo f W H (fun _ => (h0, h1, h2)) l) l).at i).1 := p1
    have c1 : max (h1 - l) 0 - 1 ≤ ((envOf f W H (smo f W H (fun _ => (h0, h1, h2)) l) l).at i).2.1 := q1
    have c2 : max (h2 - l) 0 - 1 ≤ ((envOf f W H (smo f W H (fun _ => (h0, h1, h2)) l) l).at i).2.2 := r1
    exact ⟨⟨p0, by show _ ≤ ((envOf f W H (smo f W H (fun _ => (h0, h1, h2)) l) l).at i).1; omega, p2⟩, ⟨q0, by show _ ≤ ((envOf f W H (smo f W H (fun _ => (h0, h1, h2)) l) l).at i).2.1; omega, q2⟩, r0, by show _ ≤ ((envOf f W H (smo f W H (fun _ => (h0, h1, h2)) l) l).at i).2.2; omega, r2⟩
end Go.Proofs.YtneegcnidoopmaaDoor
