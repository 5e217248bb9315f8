/- The plain side of tables and spreads. No program in sight. -/
import Derived.RowKit
namespace Go.Proofs.Ytneegcnidoopmaa
open Go.RowKit

/-- A table of 256 bytes. -/
def tab (f : Nat → Int) : Array Value := ((List.range 256).map fun i => Value.int .u8 (f i)).toArray
theorem tab_get (f : Nat → Int) {i : Nat} (h : i < 256) : (tab f)[i]? = some (.int .u8 (f i)) := by simp [tab, h]
theorem tab_size (f : Nat → Int) : (tab f).size = 256 := by simp [tab]
theorem tab_congr {f g : Nat → Int} (h : ∀ i, i < 256 → f i = g i) : tab f = tab g := by
  unfold tab
  congr 1
  exact List.map_congr_left fun i hi => by rw [h i (by simpa using hi)]
theorem tab_set (f : Nat → Int) (k : Nat) (v : Int) : (tab f).setIfInBounds k (.int .u8 v) = tab (fun i => if i = k then v else f i) := by
  apply Array.ext_getElem?
  intro i
  rw [Array.getElem?_setIfInBounds]
  by_cases hi : i < 256
  · rw [tab_get _ hi, tab_get _ hi, tab_size]
    by_cases hk : k = i
    · subst hk; simp [hi]
    · rw [if_neg hk, if_neg (fun e => hk e.symm)]
  · have e1 : (tab f)[i]? = none := by rw [Array.getElem?_eq_none]; rw [tab_size]; omega
    have e2 : (tab fun i => if i = k then v else f i)[i]? = none := by rw [Array.getElem?_eq_none]; rw [tab_size]; omega
    rw [e1, e2, tab_size]
    split
    · rw [if_neg (by omega)]
    · rfl
/-- The first k entries are done. -/
def done (f : Nat → Int) (k : Nat) (i : Nat) : Int := if i < k then f i else 0
theorem done_set (f : Nat → Int) (k : Nat) : (tab (done f k)).setIfInBounds k (.int .u8 (f k)) = tab (done f (k + 1)) := by
  rw [tab_set]
  refine tab_congr fun i _ => ?_
  unfold done
  by_cases h : i = k
  · subst h; rw [if_pos rfl, if_pos (by omega)]
  · rw [if_neg h]
    by_cases h2 : i < k
    · rw [if_pos h2, if_pos (by omega)]
    · rw [if_neg h2, if_neg (by omega)]
theorem done_all (f : Nat → Int) : tab (done f 256) = tab f := tab_congr fun i hi => if_pos hi
theorem tab_eq {f g : Nat → Int} (h : tab f = tab g) {i : Nat} (hi : i < 256) : f i = g i := by
  have := congrArg (fun t : Array Value => t[i]?) h
  simp only [tab_get _ hi] at this
  injection this with this
  injection this

/-- The least, the greatest byte of the first k dots. -/
def lowF (R G B : Nat → Int) : Nat → Int
  | 0 => 255
  | i + 1 => min (min (min (lowF R G B i) (R i)) (G i)) (B i)
def highF (R G B : Nat → Int) : Nat → Int
  | 0 => 0
  | i + 1 => max (max (max (highF R G B i) (R i)) (G i)) (B i)
/-- Bytes. -/
def Bytes3 (R G B : Nat → Int) (n : Nat) : Prop := ∀ i, i < n → 0 ≤ R i ∧ R i ≤ 255 ∧ 0 ≤ G i ∧ G i ≤ 255 ∧ 0 ≤ B i ∧ B i ≤ 255
theorem lowF_bd {R G B : Nat → Int} : ∀ {n : Nat}, Bytes3 R G B n → 0 ≤ lowF R G B n ∧ lowF R G B n ≤ 255
  | 0, _ => by simp [lowF]
  | n + 1, h => by
    have := lowF_bd (n := n) (fun i hi => h i (by omega))
    have := h n (by omega)
    unfold lowF
    omega
theorem highF_bd {R G B : Nat → Int} : ∀ {n : Nat}, Bytes3 R G B n → 0 ≤ highF R G B n ∧ highF R G B n ≤ 255
  | 0, _ => by simp [highF]
  | n + 1, h => by
    have := highF_bd (n := n) (fun i hi => h i (by omega))
    have := h n (by omega)
    unfold highF
    omega
/-- What a byte becomes where bytes from a to b are stretched over all. -/
def spreadF (a b : Int) (n : Nat) : Int := if a < b then 255 * (max a (min (n : Int) b) - a) / (b - a) else n
theorem spreadF_bd {a b : Int} {n : Nat} (ha : 0 ≤ a) (hb : b ≤ 255) (hn : n < 256) : 0 ≤ spreadF a b n ∧ spreadF a b n ≤ 255 := by
  unfold spreadF
  split
  · rename_i h
    have h1 : 0 ≤ max a (min (n : Int) b) - a := by omega
    have h2 : max a (min (n : Int) b) - a ≤ b - a := by omega
    generalize max a (min (n : Int) b) - a = x at *
    constructor
    · exact Int.ediv_nonneg (by omega) (by omega)
    · apply Int.ediv_le_of_le_mul (by omega)
      omega
  · omega
end Go.Proofs.Ytneegcnidoopmaa
