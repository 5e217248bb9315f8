/- The plain side of ref39.Spread: which bytes were seen, the least and the greatest of them. No program in sight. -/
import Derived.Test.YtneegcnidoopmaaS2
namespace Go.Proofs.Ytneegcnidoopmaa
open Go.RowKit

/-- A table of 256 truths. -/
def btab (s : Nat → Bool) : Array Value := ((List.range 256).map fun i => Value.bool (s i)).toArray
theorem btab_get (s : Nat → Bool) {i : Nat} (h : i < 256) : (btab s)[i]? = some (.bool (s i)) := by simp [btab, h]
theorem btab_size (s : Nat → Bool) : (btab s).size = 256 := by simp [btab]
theorem btab_set (s : Nat → Bool) (k : Nat) : (btab s).setIfInBounds k (.bool true) = btab (fun i => s i || decide (i = k)) := by
  apply Array.ext_getElem?
  intro i
  rw [Array.getElem?_setIfInBounds]
  by_cases hi : i < 256
  · rw [btab_get _ hi, btab_get _ hi, btab_size]
    by_cases hk : k = i
    · subst hk; simp [hi]
    · rw [if_neg hk]
      have : decide (i = k) = false := decide_eq_false (fun e => hk e.symm)
      rw [this, Bool.or_false]
  · have e1 : (btab s)[i]? = none := by rw [Array.getElem?_eq_none]; rw [btab_size]; omega
    have e2 : (btab fun i => s i || decide (i = k))[i]? = none := by rw [Array.getElem?_eq_none]; rw [btab_size]; omega
    rw [e1, e2, btab_size]
    split
    · rw [if_neg (by omega)]
    · rfl
def seenF (R G B : Nat → Int) : Nat → Nat → Bool
  | 0, _ => false
  | k + 1, v => ((seenF R G B k v || decide (v = (R k).toNat)) || decide (v = (G k).toNat)) || decide (v = (B k).toNat)
/-- Within a dot: behind its first j bytes. -/
def seenJ (s : Nat → Bool) (q0 q1 q2 : Nat) : Nat → Nat → Bool
  | 0 => s
  | 1 => fun i => s i || decide (i = q0)
  | 2 => fun i => (s i || decide (i = q0)) || decide (i = q1)
  | _ + 3 => fun i => ((s i || decide (i = q0)) || decide (i = q1)) || decide (i = q2)
theorem seenJ_end {R G B : Nat → Int} {k q0 q1 q2 : Nat} (h0 : R k = q0) (h1 : G k = q1) (h2 : B k = q2) : seenJ (seenF R G B k) q0 q1 q2 3 = seenF R G B (k + 1) := by
  funext i
  simp only [seenJ, seenF, h0, h1, h2, Int.toNat_natCast]
section
variable {R G B : Nat → Int}
theorem low_le : ∀ {n : Nat}, Bytes3 R G B n → ∀ v, seenF R G B n v = true → lowF R G B n ≤ v ∧ (v : Int) ≤ highF R G B n
  | 0, _, v, h => by simp [seenF] at h
  | n + 1, hB, v, h => by
    have ih := low_le (n := n) (fun i hi => hB i (by omega)) v
    have hb := hB n (by omega)
    simp only [seenF, Bool.or_eq_true, decide_eq_true_eq] at h
    unfold lowF highF
    rcases h with ((h | h) | h) | h
    · have := ih h; omega
    · omega
    · omega
    · omega
theorem low_is : ∀ {n : Nat}, Bytes3 R G B n → (lowF R G B n = 255 ∨ seenF R G B n (lowF R G B n).toNat = true) ∧ (highF R G B n = 0 ∨ seenF R G B n (highF R G B n).toNat = true)
  | 0, _ => ⟨.inl rfl, .inl rfl⟩
  | n + 1, hB => by
    have hB' : Bytes3 R G B n := fun i hi => hB i (by omega)
    obtain ⟨ih1, ih2⟩ := low_is hB'
    have hb := hB n (by omega)
    have l := lowF_bd hB'
    have h := highF_bd hB'
    simp only [seenF, Bool.or_eq_true, decide_eq_true_eq]
    constructor
    · have c : lowF R G B (n + 1) = lowF R G B n ∨ lowF R G B (n + 1) = R n ∨ lowF R G B (n + 1) = G n ∨ lowF R G B (n + 1) = B n := by
        have s1 : lowF R G B (n + 1) = min (min (min (lowF R G B n) (R n)) (G n)) (B n) := rfl
        rw [s1]; omega
      rcases c with e | e | e | e <;> rw [e]
      · rcases ih1 with h1 | h1
        · exact .inl h1
        · exact .inr (.inl (.inl (.inl h1)))
      · exact .inr (.inl (.inl (.inr rfl)))
      · exact .inr (.inl (.inr rfl))
      · exact .inr (.inr rfl)
    · have c : highF R G B (n + 1) = highF R G B n ∨ highF R G B (n + 1) = R n ∨ highF R G B (n + 1) = G n ∨ highF R G B (n + 1) = B n := by
        have s1 : highF R G B (n + 1) = max (max (max (highF R G B n) (R n)) (G n)) (B n) := rfl
        rw [s1]; omega
      rcases c with e | e | e | e <;> rw [e]
      · rcases ih2 with h1 | h1
        · exact .inl h1
        · exact .inr (.inl (.inl (.inl h1)))
      · exact .inr (.inl (.inl (.inr rfl)))
      · exact .inr (.inl (.inr rfl))
      · exact .inr (.inr rfl)
theorem low_seen {n : Nat} (hB : Bytes3 R G B n) (hn : 0 < n) : seenF R G B n (lowF R G B n).toNat = true ∧ seenF R G B n (highF R G B n).toNat = true := by
  obtain ⟨h1, h2⟩ := low_is hB
  obtain ⟨k, rfl⟩ : ∃ k, n = k + 1 := ⟨n - 1, by omega⟩
  have hb := hB k (by omega)
  have hs : seenF R G B (k + 1) (R k).toNat = true := by simp [seenF]
  have hle := low_le hB _ hs
  have b1 := lowF_bd hB
  have b2 := highF_bd hB
  constructor
  · rcases h1 with h1 | h1
    · have : (lowF R G B (k + 1)).toNat = (R k).toNat := by omega
      rw [this]; exact hs
    · exact h1
  · rcases h2 with h2 | h2
    · have : (highF R G B (k + 1)).toNat = (R k).toNat := by omega
      rw [this]; exact hs
    · exact h2
end
theorem spreadF_eq {a b : Int} (h : a = b) (k : Nat) : spreadF a b k = k := if_neg (by omega)
theorem spreadF_lo {a b : Int} (h : a < b) {k : Nat} (hk : (k : Int) ≤ a) : spreadF a b k = 0 := by
  unfold spreadF
  rw [if_pos h, show max a (min (k : Int) b) - a = 0 by omega]
  simp
theorem spreadF_hi {a b : Int} (h : a < b) {k : Nat} (hk : b ≤ (k : Int)) : spreadF a b k = 255 := by
  unfold spreadF
  rw [if_pos h, show max a (min (k : Int) b) - a = b - a by omega]
  exact Int.mul_ediv_cancel _ (by omega)
theorem spreadF_mid {a b : Int} {k : Nat} (h : a < (k : Int)) (hk : (k : Int) < b) : spreadF a b k = 255 * ((k : Int) - a) / (b - a) := by
  unfold spreadF
  rw [if_pos (by omega), show max a (min (k : Int) b) - a = k - a by omega]
end Go.Proofs.Ytneegcnidoopmaa
