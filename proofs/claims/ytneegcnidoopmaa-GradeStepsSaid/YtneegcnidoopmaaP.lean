/- Contracts of law21.To and law21.From: a picture as the program's, as the document's. Conditions: the dots lie behind the slice. -/
import Derived.Test.YtneegcnidoopmaaK
import Derived.Deep.RegionHeld3
namespace Go.Proofs.Ytneegcnidoopmaa
open Go.RowKit

/-- A dot's cells. -/
def dotC (R G B : Nat → Int) (i : Nat) : List Value := [.int .u8 (R i), .int .u8 (G i), .int .u8 (B i)]
theorem Own.dots {w : World} {base T : Nat} {v : Value} {n : Nat} {R G B : Nat → Int} (h : Own w base T 3 v ((List.range n).map (dotC R G B))) : ∃ A cap, v = .slice A n cap ∧ n ≤ cap ∧ Cells3 w A n R G B := by
  obtain ⟨A, cap, rfl, hc, _, hx⟩ := h.cells
  refine ⟨A, cap, by simp, by simpa using hc, fun hn => ?_⟩
  obtain ⟨b, rfl, _, _, _, hcell⟩ := hx (by simpa using hn)
  refine ⟨b, 0, rfl, fun i hi => ?_⟩
  have c0 := hcell i 0 (by simpa using hi) (by omega)
  have c1 := hcell i 1 (by simpa using hi) (by omega)
  have c2 := hcell i 2 (by simpa using hi) (by omega)
  simp [hi, dotC] at c0 c1 c2
  exact ⟨by simpa using c0, by simpa using c1, by simpa using c2⟩
theorem Cells3.flat {w : World} {A : Option Addr} {n : Nat} {R G B : Nat → Int} (h : Cells3 w A n R G B) : ∀ ad, A = some ad → ∀ j u, ((List.range n).map (dotC R G B)).flatten[j]? = some u → w.cell? (ad.add j) = some u := by
  intro ad hA j u hj
  rcases Nat.eq_zero_or_pos n with h0 | h0
  · subst h0; simp at hj
  · obtain ⟨b, off, e, hc⟩ := h h0
    rw [hA] at e
    injection e with e
    subst e
    refine flat_cells (sz := 3) (by omega) (fun c hc => ?_) (fun i j hi hj => ?_) j u hj
    · obtain ⟨i, _, rfl⟩ := List.mem_map.1 hc; rfl
    · have hi' : i < n := by simpa using hi
      obtain ⟨q0, q1, q2⟩ := hc i hi'
      have : j = 0 ∨ j = 1 ∨ j = 2 := by omega
      rcases this with rfl | rfl | rfl
      · simpa [hi', dotC] using q0
      · simpa [hi', dotC, Nat.add_assoc] using q1
      · simpa [hi', dotC, Nat.add_assoc] using q2
/-- A picture of the call's own. -/
def RetPic (w : World) (T : Nat) (W H : Int) (n : Nat) (R G B : Nat → Int) (e : Ending) (w' : World) : Prop :=
  ∃ v, e = .returned (.agg #[.int .i64 W, .int .i64 H, v]) ∧ Own w' w.heap.size T 3 v ((List.range n).map (dotC R G B)) ∧ Below w.heap.size w w'

set_option maxRecDepth 100000 in
set_option maxHeartbeats 1000000 in
theorem picto_any (W H : Int) (A : Option Addr) (n cap : Nat) (R G B : Nat → Int) (w : World) (hn : n ≤ 1000000) (hnil : A = none → n = 0 ∧ cap = 0) (hc : Cells3 w A n R G B) :
    Calls Try.prog 23 #[.agg #[.int .i64 W, .int .i64 H, .slice A n cap]] w (RetPic w 133 W H n R G B) := by
  have HC := Lib.hid hc
  have HN := Lib.hid hnil
  clear hc hnil
  go_enter Try.func23, Try.ntmps23
  go_wp2
  go_region_held3 (fun w' => w'.cell? ⟨w.heap.size, 0, none⟩ = some (.int .i64 W) ∧ w'.cell? ⟨w.heap.size, 1, none⟩ = some (.int .i64 H) ∧ w'.cell? ⟨w.heap.size, 2, none⟩ = some (.slice A n cap)) (go_keep)
    ((refine step_own_appendN (by rfl) (wp_own_appendN (w0 := w) _ _ 34 (by rfl) w.heap.size 133 (.agg #[.int .u8 0, .int .u8 0, .int .u8 0]) 3 3 Try.underlying34 (by kernel_rfl) rfl (by omega) _ [] (by rfl) (Own.drew (Own.lit _ _ _ _ [] (by simp; omega) (by simp) (by simp) _ (by simp) _ (by simp) _ (by simp))) A n cap ((List.range n).map (dotC R G B)) (by rfl) (by simp) (by intro c hc; obtain ⟨i, _, rfl⟩ := List.mem_map.1 hc; rfl) HN.out (Cells3.flat (HC.out.below ((by repeat (first | assumption | exact gr_refl _ | refine gr_alloc ?_ _ | refine gr_drew ?_ | refine gr_drewN ?_ _ | refine gr_ext ?_ _ | (refine gr_set ?_ ?_ _; rotate_left; (simp <;> omega))))))) (by intro c hc; obtain ⟨i, _, rfl⟩ := List.mem_map.1 hc; intro u hu; simp [dotC] at hu; rcases hu with rfl | rfl | rfl <;> rfl) (by simp; omega) (by omega) ((by repeat (first | assumption | exact gr_refl _ | refine gr_alloc ?_ _ | refine gr_drew ?_ | refine gr_drewN ?_ _ | refine gr_ext ?_ _ | (refine gr_set ?_ ?_ _; rotate_left; (simp <;> omega))))) (Nat.le_refl _) (by simp; omega) ?_); intro v' w1 hown1 hb1 hg1; have q0 : w1.cell? ⟨w.heap.size, 0, none⟩ = some (.int .i64 W) := hg1.cell (by go_simp) (by simp [Value.ownBlock]; omega); have q1 : w1.cell? ⟨w.heap.size, 1, none⟩ = some (.int .i64 H) := hg1.cell (by go_simp) (by simp [Value.ownBlock]; omega); have q2 : w1.cell? ⟨w.heap.size, 2, none⟩ = some (.slice A n cap) := hg1.cell (by go_simp) (by simp [Value.ownBlock]; omega); have r0 : Blk w1 (w.heap.size + 1) #[.int .i64 0, .int .i64 0, .slice none 0 0] 46 := Blk.grown (w := (((w.alloc _).alloc _).alloc _).drew) (by repeat (first | assumption | (refine Blk.at_ _ _ ?_; simp; done) | refine Blk.alloc ?_ _ | refine Blk.drew ?_ | refine Blk.ext ?_ _ | exact Blk.set (by assumption) _ _ | (refine Blk.other ?_ ?_ _; rotate_left; (simp <;> omega)))) hg1 (by simp [Value.ownBlock]); obtain ⟨A', cap', rfl, hcap', _, _⟩ := hown1.cells; have cr := r0.cell; have fr := r0.frozen))
  go_wp2
  have hne := hown1.ne_blk r0 (by decide)
  have hr : w.heap.size + 1 < w1.heap.size := r0.lt
  refine bodyPost_ret (v := .agg #[.int .i64 W, .int .i64 H, .slice A' n cap']) (by simp [results, Try.results23, go_sem, cr]) rfl ⟨_, rfl, ?_, ?_⟩
  · simp only [List.nil_append, List.length_map, List.length_range] at hown1 hne
    exact ((hown1.other hne _).other hne _).other hne _
  · exact gr_set (gr_set (gr_set hb1 (by simp) _) (by simp) _) (by simp) _
end Go.Proofs.Ytneegcnidoopmaa
