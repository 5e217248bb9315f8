/- The plain side of packages fix and grade: what the functions compute, and the plain laws on it. No program in sight; no conditions. -/
import Derived.RowKit
namespace Go.Proofs.YtneegcnidoopmaaDoor
open Go.RowKit

/-! ### Numbers -/
def held (n : Int) : Int := if 2147483648 < n then 2147483648 else if n < -2147483648 then -2147483648 else n
theorem held_bd (n : Int) : -2147483648 ≤ held n ∧ held n ≤ 2147483648 := by unfold held; split <;> (try split) <;> omega
theorem held_hi {n : Int} (h : 2147483648 < n) : held n = 2147483648 := if_pos h
theorem held_lo {n : Int} (h : n < -2147483648) : held n = -2147483648 := by unfold held; rw [if_neg (by omega), if_pos h]
theorem held_in {n : Int} (h1 : -2147483648 ≤ n) (h2 : n ≤ 2147483648) : held n = n := by unfold held; rw [if_neg (by omega), if_neg (by omega)]
theorem held_held (n : Int) : held (held n) = held n := held_in (held_bd n).1 (held_bd n).2
def addF (a b : Int) : Int := held (held a + held b)
def subF (a b : Int) : Int := held (held a - held b)
def mulF (a b : Int) : Int := held (held a * held b / 65536)
def quoF (n d : Int) : Int := if d < 0 then (-n) / (-d) else n / d
def divF (a b : Int) : Int := if held b = 0 then (if 0 < held a then 2147483648 else if held a < 0 then -2147483648 else 0) else held (quoF (held a * 65536) (held b))
def ofF (n : Int) : Int := if 32768 < n then 2147483648 else if n < -32768 then -2147483648 else n * 65536
def unitF (a : Int) : Int := if a < 0 then 0 else if 65536 < a then 65536 else a
def lerpF (a b t : Int) : Int := held (held a + (held b - held a) * unitF t / 65536)
theorem unitF_bd (a : Int) : 0 ≤ unitF a ∧ unitF a ≤ 65536 := by unfold unitF; split <;> (try split) <;> omega

theorem abs_mul_le {a b : Int} {A B : Nat} (h1 : -(A : Int) ≤ a) (h2 : a ≤ A) (h3 : -(B : Int) ≤ b) (h4 : b ≤ B) : -((A * B : Nat) : Int) ≤ a * b ∧ a * b ≤ ((A * B : Nat) : Int) := by
  have e : (a * b).natAbs ≤ A * B := by rw [Int.natAbs_mul]; exact Nat.mul_le_mul (by omega) (by omega)
  generalize a * b = p at e
  generalize A * B = q at e
  omega

theorem tdiv_floor {n d : Int} (hd : 0 < d) : (if n.tmod d < 0 then n.tdiv d - 1 else n.tdiv d) = n / d := by
  have h1 := Int.tdiv_eq_ediv (a := n) (b := d)
  have h2 := Int.tmod_eq_emod (a := n) (b := d)
  have h3 := Int.emod_nonneg n (show d ≠ 0 by omega)
  have h4 := Int.emod_lt_of_pos n hd
  have h5 : d.sign = 1 := Int.sign_eq_one_of_pos hd
  have h6 : d ∣ n ↔ n % d = 0 := Int.dvd_iff_emod_eq_zero
  rw [h5] at h1
  have h7 : (d.natAbs : Int) = d := by omega
  generalize n / d = q at *
  generalize n % d = r at *
  by_cases h : 0 ≤ n ∨ d ∣ n
  · rw [if_pos h] at h1 h2
    rw [if_neg (by omega)]
    omega
  · rw [if_neg h] at h1 h2
    rw [h7] at h2
    have : ¬ r = 0 := fun e => h (.inr (h6.2 e))
    rw [if_pos (by omega)]
    omega
theorem tdiv_floor_neg {n d : Int} (hd : 0 < d) (h : n.tmod d < 0) : n.tdiv d - 1 = n / d := by have := tdiv_floor (n := n) hd; rwa [if_pos h] at this
theorem tdiv_floor_pos {n d : Int} (hd : 0 < d) (h : 0 ≤ n.tmod d) : n.tdiv d = n / d := by have := tdiv_floor (n := n) hd; rwa [if_neg (by omega)] at this
theorem ediv_bd {n d : Int} {B : Int} (hd : 0 < d) (h1 : -B ≤ n) (h2 : n ≤ B) (_hB : 0 ≤ B) : -B ≤ n / d ∧ n / d ≤ B := by
  constructor
  · rw [Int.le_ediv_iff_mul_le hd]
    have : B * 1 ≤ B * d := Int.mul_le_mul_of_nonneg_left (by omega) _hB
    rw [Int.neg_mul]; omega
  · apply Int.ediv_le_of_le_mul hd
    have : B * 1 ≤ B * d := Int.mul_le_mul_of_nonneg_left (by omega) _hB
    omega
theorem tdiv_bd {n d : Int} {B : Int} (hd : 0 < d) (h1 : -B ≤ n) (h2 : n ≤ B) (hB : 0 ≤ B) : -B ≤ n.tdiv d ∧ n.tdiv d ≤ B := by
  by_cases h : 0 ≤ n
  · rw [Int.tdiv_eq_ediv_of_nonneg h]; exact ediv_bd hd h1 h2 hB
  · have := ediv_bd (n := -n) (B := B) hd (by omega) (by omega) hB
    have e : n.tdiv d = -((-n) / d) := by rw [← Int.tdiv_eq_ediv_of_nonneg (by omega : 0 ≤ -n), Int.neg_tdiv]; omega
    omega

/-! ### Curves -/
def lineAt (ax ay bx by_ x : Int) : Int := ay + (by_ - ay) * (x - ax) / (bx - ax)
/-- A curve that may be. -/
def PinsOk (X Y : Nat → Int) (n : Nat) : Prop :=
  1 ≤ n ∧ n ≤ 16 ∧ (∀ i, i < n → -16777216 ≤ X i ∧ X i ≤ 16777216 ∧ -16777216 ≤ Y i ∧ Y i ≤ 16777216) ∧ ∀ i, i + 1 < n → X i < X (i + 1)
noncomputable instance (X Y : Nat → Int) (n : Nat) : Decidable (PinsOk X Y n) := Classical.propDecidable _
noncomputable def pinsB (X Y : Nat → Int) (n : Nat) : Bool := decide (PinsOk X Y n)
theorem pinsB_t {X Y : Nat → Int} {n : Nat} (h : PinsOk X Y n) : pinsB X Y n = true := by unfold pinsB; exact decide_eq_true h
theorem pinsB_f {X Y : Nat → Int} {n : Nat} (h : ¬ PinsOk X Y n) : pinsB X Y n = false := by unfold pinsB; exact decide_eq_false h
/-- The first k pins are as they may be. -/
def PinsTo (X Y : Nat → Int) (k : Nat) : Prop := (∀ i, i < k → -16777216 ≤ X i ∧ X i ≤ 16777216 ∧ -16777216 ≤ Y i ∧ Y i ≤ 16777216) ∧ ∀ i, i + 1 < k → X i < X (i + 1)
theorem PinsTo.zero (X Y : Nat → Int) : PinsTo X Y 0 := ⟨fun i h => by omega, fun i h => by omega⟩
theorem PinsTo.one {X Y : Nat → Int} (h1 : -16777216 ≤ X 0) (h2 : X 0 ≤ 16777216) (h3 : -16777216 ≤ Y 0) (h4 : Y 0 ≤ 16777216) : PinsTo X Y 1 := by
  refine ⟨fun i h => ?_, fun i h => by omega⟩
  have e : i = 0 := by omega
  subst e
  exact ⟨h1, h2, h3, h4⟩
theorem PinsTo.succ {X Y : Nat → Int} {k : Nat} (h : PinsTo X Y (k + 1)) (h1 : -16777216 ≤ X (k + 1)) (h2 : X (k + 1) ≤ 16777216) (h3 : -16777216 ≤ Y (k + 1)) (h4 : Y (k + 1) ≤ 16777216) (h5 : X k < X (k + 1)) : PinsTo X Y (k + 1 + 1) := by
  refine ⟨fun i hi => ?_, fun i hi => ?_⟩
  · by_cases e : i = k + 1
    · subst e; exact ⟨h1, h2, h3, h4⟩
    · exact h.1 i (by omega)
  · by_cases e : i = k
    · subst e; exact h5
    · exact h.2 i (by omega)
theorem PinsTo.ok {X Y : Nat → Int} {n : Nat} (h : PinsTo X Y n) (h1 : 1 ≤ n) (h2 : n ≤ 16) : PinsOk X Y n := ⟨h1, h2, h.1, h.2⟩
theorem PinsOk.mono {X Y : Nat → Int} {n : Nat} (h : PinsOk X Y n) {i : Nat} : ∀ d, i + d < n → X i ≤ X (i + d) := by
  intro d
  induction d with
  | zero => intro _; exact Int.le_refl _
  | succ d ih => intro hd; have := h.2.2.2 (i + d) (by omega); have := ih (by omega); rw [show i + (d + 1) = i + d + 1 from rfl]; omega

/-- How high a curve is from pin i on. -/
def fromPin (X Y : Nat → Int) (n : Nat) (x : Int) (i : Nat) : Int :=
  if _h : i < n then (if x ≤ X i then lineAt (X (i - 1)) (Y (i - 1)) (X i) (Y i) x else fromPin X Y n x (i + 1)) else Y (n - 1)
termination_by n - i
theorem fromPin_in {X Y : Nat → Int} {n : Nat} {x : Int} {i : Nat} (h : i < n) (hx : x ≤ X i) : fromPin X Y n x i = lineAt (X (i - 1)) (Y (i - 1)) (X i) (Y i) x := by rw [fromPin, dif_pos h, if_pos hx]
theorem fromPin_on {X Y : Nat → Int} {n : Nat} {x : Int} {i : Nat} (h : i < n) (hx : ¬ x ≤ X i) : fromPin X Y n x i = fromPin X Y n x (i + 1) := by rw [fromPin, dif_pos h, if_neg hx]
theorem fromPin_end {X Y : Nat → Int} {n : Nat} {x : Int} {i : Nat} (h : ¬ i < n) : fromPin X Y n x i = Y (n - 1) := by rw [fromPin, dif_neg h]
noncomputable def curveAt (X Y : Nat → Int) (n : Nat) (x : Int) : Int := if PinsOk X Y n then (if held x ≤ X 0 then Y 0 else fromPin X Y n (held x) 1) else 0
theorem curveAt_no {X Y : Nat → Int} {n : Nat} {x : Int} (h : ¬ PinsOk X Y n) : curveAt X Y n x = 0 := if_neg h
theorem curveAt_lo {X Y : Nat → Int} {n : Nat} {x : Int} (h : PinsOk X Y n) (hx : held x ≤ X 0) : curveAt X Y n x = Y 0 := by unfold curveAt; rw [if_pos h, if_pos hx]
theorem curveAt_hi {X Y : Nat → Int} {n : Nat} {x : Int} (h : PinsOk X Y n) (hx : ¬ held x ≤ X 0) : curveAt X Y n x = fromPin X Y n (held x) 1 := by unfold curveAt; rw [if_pos h, if_neg hx]

/-- The last one of the first i pins that lies left of x; -1: none does. -/
def lastPin (X : Nat → Int) (x : Int) : Nat → Int
  | 0 => -1
  | i + 1 => if X i < x then (i : Int) else lastPin X x i
theorem lastPin_bd (X : Nat → Int) (x : Int) : ∀ i, -1 ≤ lastPin X x i ∧ lastPin X x i < i
  | 0 => by simp [lastPin]
  | i + 1 => by have := lastPin_bd X x i; unfold lastPin; split <;> omega
theorem lastPin_hit {X : Nat → Int} {x : Int} : ∀ {i : Nat} {j : Nat}, lastPin X x i = (j : Int) → X j < x ∧ ∀ m, j < m → m < i → x ≤ X m
  | 0, j, h => by simp [lastPin] at h
  | i + 1, j, h => by
    unfold lastPin at h
    split at h
    · obtain rfl : i = j := by omega
      exact ⟨by assumption, fun m h1 h2 => by omega⟩
    · obtain ⟨h1, h2⟩ := lastPin_hit h
      refine ⟨h1, fun m h3 h4 => ?_⟩
      by_cases e : m = i
      · subst e; omega
      · exact h2 m h3 (by omega)
theorem lastPin_none {X : Nat → Int} {x : Int} : ∀ {i : Nat}, lastPin X x i < 0 → ∀ m, m < i → x ≤ X m
  | 0, _, m, hm => by omega
  | i + 1, h, m, hm => by
    unfold lastPin at h
    split at h
    · omega
    · by_cases e : m = i
      · subst e; omega
      · exact lastPin_none h m (by omega)
theorem fromPin_skip {X Y : Nat → Int} {n : Nat} {x : Int} : ∀ (d i : Nat), (∀ m, i ≤ m → m < i + d → m < n → ¬ x ≤ X m) → i + d ≤ n → fromPin X Y n x i = fromPin X Y n x (i + d)
  | 0, _, _, _ => rfl
  | d + 1, i, h, hn => by
    rw [fromPin_on (by omega) (h i (Nat.le_refl _) (by omega) (by omega)), fromPin_skip d (i + 1) (fun m h1 h2 h3 => h m (by omega) (by omega) h3) (by omega)]
    rw [show i + 1 + d = i + (d + 1) by omega]
theorem curveAt_last0 {X Y : Nat → Int} {n : Nat} {x : Int} (h : PinsOk X Y n) (hl : lastPin X (held x) n < 0) : curveAt X Y n x = Y 0 :=
  curveAt_lo h (lastPin_none hl 0 (by have := h.1; omega))
theorem curveAt_lastN {X Y : Nat → Int} {n : Nat} {x : Int} (h : PinsOk X Y n) {j : Nat} (hl : lastPin X (held x) n = (j : Int)) (hj : j + 1 = n) : curveAt X Y n x = Y j := by
  obtain ⟨h1, _⟩ := lastPin_hit hl
  have h0 := h.mono (i := 0) j (by omega)
  rw [Nat.zero_add] at h0
  rw [curveAt_hi h (by omega), fromPin_skip (n - 1) 1 (fun m h3 h4 h5 => by have := h.mono (i := m) (j - m) (by omega); rw [show m + (j - m) = j by omega] at this; omega) (by omega), fromPin_end (by omega)]
  congr 1; omega
theorem curveAt_lastI {X Y : Nat → Int} {n : Nat} {x : Int} (h : PinsOk X Y n) {j : Nat} (hl : lastPin X (held x) n = (j : Int)) (hj : j + 1 < n) : curveAt X Y n x = lineAt (X j) (Y j) (X (j + 1)) (Y (j + 1)) (held x) := by
  obtain ⟨h1, h2⟩ := lastPin_hit hl
  have h0 := h.mono (i := 0) j (by omega)
  rw [Nat.zero_add] at h0
  rw [curveAt_hi h (by omega), fromPin_skip j 1 (fun m h3 h4 h5 => by have := h.mono (i := m) (j - m) (by omega); rw [show m + (j - m) = j by omega] at this; omega) (by omega), show 1 + j = j + 1 by omega,
    fromPin_in hj (h2 (j + 1) (by omega) hj)]
  rfl
/-- No pin is lower than the one ahead of it. -/
def UpTo (Y : Nat → Int) (n : Nat) : Prop := ∀ i, i + 1 < n → Y i ≤ Y (i + 1)
noncomputable instance (Y : Nat → Int) (n : Nat) : Decidable (UpTo Y n) := Classical.propDecidable _
noncomputable def risesB (X Y : Nat → Int) (n : Nat) : Bool := decide (PinsOk X Y n ∧ UpTo Y n)
theorem risesB_t {X Y : Nat → Int} {n : Nat} (h : PinsOk X Y n) (hu : UpTo Y n) : risesB X Y n = true := by unfold risesB; exact decide_eq_true ⟨h, hu⟩
theorem risesB_no {X Y : Nat → Int} {n : Nat} (h : ¬ PinsOk X Y n) : risesB X Y n = false := by unfold risesB; exact decide_eq_false fun e => h e.1
theorem risesB_fall {X Y : Nat → Int} {n i : Nat} (hi : i + 1 < n) (h : Y (i + 1) < Y i) : risesB X Y n = false := by unfold risesB; exact decide_eq_false fun e => by have := e.2 i hi; omega
theorem risesB_up {X Y : Nat → Int} {n : Nat} (hu : UpTo Y n) : risesB X Y n = pinsB X Y n := by
  by_cases h : PinsOk X Y n
  · rw [risesB_t h hu, pinsB_t h]
  · rw [risesB_no h, pinsB_f h]
theorem UpTo.one (Y : Nat → Int) : UpTo Y 1 := fun i h => by omega
theorem UpTo.small {Y : Nat → Int} {n : Nat} (h : n ≤ 1) : UpTo Y n := fun i h => by omega
theorem UpTo.succ {Y : Nat → Int} {k : Nat} (h : UpTo Y (k + 1)) (h1 : Y k ≤ Y (k + 1)) : UpTo Y (k + 1 + 1) := fun i hi => by
  by_cases e : i = k
  · subst e; exact h1
  · exact h i (by omega)
end Go.Proofs.YtneegcnidoopmaaDoor
