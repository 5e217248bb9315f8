/- The plain law of P39.4: a curve that rises never falls; the curve from end to end leaves all as it is. No program in sight. -/
import Derived.Test.YtneegcnidoopmaaS
namespace Go.Proofs.Ytneegcnidoopmaa
open Go.RowKit

theorem UpTo.mono {Y : Nat → Int} {n : Nat} (h : UpTo Y n) {i : Nat} : ∀ d, i + d < n → Y i ≤ Y (i + d)
  | 0, _ => Int.le_refl _
  | d + 1, hd => by have := h.mono (i := i) d (by omega); have := h (i + d) (by omega); rw [show i + (d + 1) = i + d + 1 from rfl]; omega
theorem lineAt_mono {ax ay bx by_ x y : Int} (h1 : ax < bx) (h2 : ay ≤ by_) (hxy : x ≤ y) : lineAt ax ay bx by_ x ≤ lineAt ax ay bx by_ y := by
  unfold lineAt
  have : (by_ - ay) * (x - ax) ≤ (by_ - ay) * (y - ax) := Int.mul_le_mul_of_nonneg_left (by omega) (by omega)
  have := Int.ediv_le_ediv (c := bx - ax) (by omega) this
  omega
theorem lineAt_start {ax ay bx by_ : Int} : lineAt ax ay bx by_ ax = ay := by unfold lineAt; simp
theorem lineAt_end {ax ay bx by_ : Int} (h1 : ax < bx) : lineAt ax ay bx by_ bx = by_ := by
  unfold lineAt
  rw [Int.mul_ediv_cancel _ (by omega)]
  omega
theorem held_mono {a b : Int} (h : a ≤ b) : held a ≤ held b := by unfold held; split <;> split <;> (try split) <;> (try split) <;> omega
theorem lastPin_mono {X : Nat → Int} {x y : Int} (h : x ≤ y) : ∀ i, lastPin X x i ≤ lastPin X y i
  | 0 => Int.le_refl _
  | i + 1 => by
    have := lastPin_mono (X := X) h i
    have b1 := lastPin_bd X x i
    unfold lastPin
    split
    · rw [if_pos (by omega)]; omega
    · split <;> omega
theorem curveAt_lower {X Y : Nat → Int} {n : Nat} {y : Int} (h : PinsOk X Y n) (hu : UpTo Y n) {j : Nat} (hj : lastPin X (held y) n = (j : Int)) : Y j ≤ curveAt X Y n y := by
  have bd := lastPin_bd X (held y) n
  by_cases e : j + 1 = n
  · rw [curveAt_lastN h hj e]; exact Int.le_refl _
  · have hlt : j + 1 < n := by omega
    rw [curveAt_lastI h hj hlt]
    have := lineAt_mono (ax := X j) (ay := Y j) (bx := X (j + 1)) (by_ := Y (j + 1)) (h.2.2.2 j hlt) (hu j hlt) (x := X j) (y := held y) (by have := (lastPin_hit hj).1; omega)
    rwa [lineAt_start] at this
theorem curveAt_mono {X Y : Nat → Int} {n : Nat} {x y : Int} (h : PinsOk X Y n) (hu : UpTo Y n) (hxy : x ≤ y) : curveAt X Y n x ≤ curveAt X Y n y := by
  have hh := held_mono hxy
  have hl := lastPin_mono (X := X) hh n
  have b1 := lastPin_bd X (held x) n
  have b2 := lastPin_bd X (held y) n
  have hn := h.1
  by_cases hx0 : lastPin X (held x) n < 0
  · rw [curveAt_last0 h hx0]
    by_cases hy0 : lastPin X (held y) n < 0
    · rw [curveAt_last0 h hy0]; exact Int.le_refl _
    · obtain ⟨j, hj⟩ : ∃ j : Nat, lastPin X (held y) n = (j : Int) := ⟨(lastPin X (held y) n).toNat, by omega⟩
      have := curveAt_lower h hu hj
      have := hu.mono (i := 0) j (by omega)
      rw [Nat.zero_add] at this
      omega
  · obtain ⟨i, hi⟩ : ∃ i : Nat, lastPin X (held x) n = (i : Int) := ⟨(lastPin X (held x) n).toNat, by omega⟩
    obtain ⟨j, hj⟩ : ∃ j : Nat, lastPin X (held y) n = (j : Int) := ⟨(lastPin X (held y) n).toNat, by omega⟩
    have hij : i ≤ j := by omega
    by_cases e : i = j
    · subst e
      by_cases en : i + 1 = n
      · rw [curveAt_lastN h hi en, curveAt_lastN h hj en]; exact Int.le_refl _
      · have hlt : i + 1 < n := by omega
        rw [curveAt_lastI h hi hlt, curveAt_lastI h hj hlt]
        exact lineAt_mono (h.2.2.2 i hlt) (hu i hlt) hh
    · have hlt : i + 1 < n := by omega
      have h1 := curveAt_lower h hu hj
      have h2 : curveAt X Y n x ≤ Y (i + 1) := by
        rw [curveAt_lastI h hi hlt]
        have := lineAt_mono (ax := X i) (ay := Y i) (bx := X (i + 1)) (by_ := Y (i + 1)) (h.2.2.2 i hlt) (hu i hlt) (x := held x) (y := X (i + 1)) ((lastPin_hit hi).2 (i + 1) (by omega) hlt)
        rwa [lineAt_end (h.2.2.2 i hlt)] at this
      have h3 := hu.mono (i := i + 1) (j - (i + 1)) (by omega)
      rw [show i + 1 + (j - (i + 1)) = j by omega] at h3
      omega
theorem rises_mono {X Y : Nat → Int} {n : Nat} (h : risesB X Y n = true) {x y : Int} (hxy : x ≤ y) : curveAt X Y n x ≤ curveAt X Y n y := by
  unfold risesB at h
  obtain ⟨h1, h2⟩ := of_decide_eq_true h
  exact curveAt_mono h1 h2 hxy
theorem same_at {X : Nat → Int} (h0 : X 0 = -16777216) (h1 : X 1 = 16777216) (x : Int) : curveAt X X 2 x = max (-16777216) (min x 16777216) := by
  have ok : PinsOk X X 2 := by
    refine ⟨by omega, by omega, fun i hi => ?_, fun i hi => ?_⟩
    · have : i = 0 ∨ i = 1 := by omega
      rcases this with rfl | rfl
      · rw [h0]; omega
      · rw [h1]; omega
    · obtain rfl : i = 0 := by omega
      rw [h0, h1]; omega
  by_cases hx : held x ≤ X 0
  · rw [curveAt_lo ok hx, h0]
    rw [h0] at hx
    unfold held at hx
    split at hx <;> (try split at hx) <;> omega
  · rw [curveAt_hi ok hx]
    rw [h0] at hx
    by_cases hy : held x ≤ X 1
    · rw [fromPin_in (by omega) hy]
      rw [h1] at hy
      show lineAt (X 0) (X 0) (X 1) (X 1) (held x) = _
      rw [h0, h1]
      unfold lineAt
      rw [Int.mul_ediv_cancel_left _ (by omega)]
      unfold held at *
      split at hx <;> (try split at hx) <;> (try split at hy) <;> (try split at hy) <;> (try split) <;> (try split) <;> omega
    · rw [fromPin_on (by omega) hy, fromPin_end (by omega)]
      rw [h1] at hy
      show X 1 = _
      rw [h1]
      unfold held at hy
      split at hy <;> (try split at hy) <;> omega
end Go.Proofs.Ytneegcnidoopmaa
