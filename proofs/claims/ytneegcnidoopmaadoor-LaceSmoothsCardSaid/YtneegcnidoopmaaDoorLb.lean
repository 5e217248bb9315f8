/- Contracts of lace.like, lace.near and ref20.Alike, Power, Tap. Conditions: the film's rows lie behind their slices; the pixels lie in them. -/
import Derived.Test.YtneegcnidoopmaaDoorLa
import Derived.Test.YtneegcnidoopmaaDoorSh
namespace Go.Proofs.YtneegcnidoopmaaDoor
open Go.RowKit

def divP (a b : Int) : Int := held (held a * 65536 / held b)
theorem fdivP_any (a b : Int) (w : World) (hb : 0 < held b) : Calls Tryd.prog 32 #[.int .i64 a, .int .i64 b] w fun e w' => e = .returned (.int .i64 (divP a b)) ∧ w = w' := fdiv_any a b w hb
theorem rdivP_any (a b : Int) (w : World) (hb : 0 < held b) : Calls Tryd.prog 39 #[.int .i64 a, .int .i64 b] w fun e w' => e = .returned (.int .i64 (divP a b)) ∧ w = w' := rdiv_any a b w hb
theorem held_pos {n : Int} (h : 0 < n) : 0 < held n := by unfold held; split <;> (try split) <;> omega
theorem divP_nonneg {a b : Int} (ha : 0 ≤ a) (hb : 0 < b) : 0 ≤ divP a b := held_nonneg (Int.ediv_nonneg (by have := held_nonneg ha; omega) (by have := held_pos hb; omega))

/-- n numbers lie behind A. -/
def CellsI (w : World) (A : Option Addr) (n : Nat) (F : Nat → Int) : Prop := 0 < n → ∃ b off, A = some ⟨b, off, none⟩ ∧ ∀ i, i < n → w.cell? ⟨b, off + i, none⟩ = some (.int .i64 (F i))
theorem CellsI.below {w w1 : World} {A : Option Addr} {n : Nat} {F : Nat → Int} (h : CellsI w A n F) (hb : Below w.heap.size w w1) : CellsI w1 A n F := by
  intro hn
  obtain ⟨b, off, e, hc⟩ := h hn
  exact ⟨b, off, e, fun i hi => cell_later hb (hc i hi)⟩
theorem CellsI.ext {w : World} {A : Option Addr} {n : Nat} {F : Nat → Int} (h : CellsI w A n F) (x : Ext w) : CellsI x.val A n F := h.below x.below

/-- What is known of a film. -/
structure Flm where
  sh : Nat → Int
  d : Nat → Int
  nx : Nat → Int
  ny : Nat → Int
  nz : Nat → Int
def Flm.near (f : Flm) (i k : Nat) : Int := mulF (unitF (dotF (f.nx i) (f.ny i) (f.nz i) (f.nx k) (f.ny k) (f.nz k))) (divP 65536 (addF 65536 (mulF 262144 (absF (subF (f.d i) (f.d k))))))
def Flm.like (f : Flm) (i k : Nat) : Int := if f.sh i < 0 then (if f.sh k < 0 then 65536 else 0) else if f.sh k < 0 then 0 else f.near i k
theorem like_same {f : Flm} {i k : Nat} (h : f.sh i < 0) (g : f.sh k < 0) : f.like i k = 65536 := by unfold Flm.like; rw [if_pos h, if_pos g]
theorem like_diff {f : Flm} {i k : Nat} (h : f.sh i < 0) (g : ¬ f.sh k < 0) : f.like i k = 0 := by unfold Flm.like; rw [if_pos h, if_neg g]
theorem like_diff2 {f : Flm} {i k : Nat} (h : ¬ f.sh i < 0) (g : f.sh k < 0) : f.like i k = 0 := by unfold Flm.like; rw [if_neg h, if_pos g]
theorem like_near {f : Flm} {i k : Nat} (h : ¬ f.sh i < 0) (g : ¬ f.sh k < 0) : f.like i k = f.near i k := by unfold Flm.like; rw [if_neg h, if_neg g]
theorem one_more {x : Int} (h : 0 ≤ x) : 0 < addF 65536 x := held_pos (by have := held_nonneg h; have e : held 65536 = 65536 := held_in (by omega) (by omega); omega)
theorem near_nonneg (f : Flm) (i k : Nat) : 0 ≤ f.near i k := mulF_nonneg (unitF_bd _).1 (divP_nonneg (by omega) (one_more (mulF_nonneg (by omega) (absF_bd _).1)))
theorem like_nonneg (f : Flm) (i k : Nat) : 0 ≤ f.like i k := by unfold Flm.like; split <;> (try split) <;> first | omega | exact near_nonneg f i k

set_option maxRecDepth 100000 in
set_option maxHeartbeats 2000000 in
theorem like_any (f : Flm) (W H : Int) (AL AD AN AB AS AF : Option Addr) (nL cL cD cN nB cB cS nF cF n : Nat) (i k : Nat) (w : World) (hi : i < n) (hk : k < n) (hn : n ≤ 1000000) (hS : CellsI w AS n f.sh) (hD : CellsI w AD n f.d) (hN : CellsH w AN n f.nx f.ny f.nz) :
    Calls Tryd.prog 45 #[.agg #[.int .i64 W, .int .i64 H, .slice AL nL cL, .slice AD n cD, .slice AN n cN, .slice AB nB cB, .slice AS n cS, .slice AF nF cF], .int .i64 i, .int .i64 k] w fun e w' => e = .returned (.int .i64 (f.like i k)) ∧ Grew w w' := by
  obtain ⟨bS, oS, rfl, cs⟩ := hS (by omega)
  obtain ⟨bD, oD, rfl, cd⟩ := hD (by omega)
  obtain ⟨bN, oN, rfl, cn⟩ := hN (by omega)
  have si := cs i hi
  have sk := cs k hk
  have di := cd i hi
  have dk := cd k hk
  obtain ⟨n0, n1, n2⟩ := cn i hi
  obtain ⟨m0, m1, m2⟩ := cn k hk
  have lS : bS < w.heap.size := World.block_lt_of_cell? _ _ si
  have lD : bD < w.heap.size := World.block_lt_of_cell? _ _ di
  have lN : bN < w.heap.size := World.block_lt_of_cell? _ _ n0
  have lS1 : bS < w.heap.size + 1 := by omega
  have lD1 : bD < w.heap.size + 1 := by omega
  have lN1 : bN < w.heap.size + 1 := by omega
  clear cs cd cn hS hD hN
  by_cases h : f.sh i < 0
  · by_cases g : f.sh k < 0
    · have E := Lib.hid (like_same h g)
      have h' : decide (f.sh i < 0) = true := decide_eq_true h
      have g' : decide (f.sh k < 0) = true := decide_eq_true g
      go_enter Tryd.func45, Tryd.ntmps45
      go_wp2
      refine wp_region_ext (by kernel_rfl) (by kernel_rfl) ?_
      repeat (go_big_quiet_step (fail))
      refine wpQuiet_nil ?_
      rintro _ ⟨x1, rfl⟩
      go_wp2
      go_ret
      exact ⟨ret_i E.out.symm, Grew.of (by repeat (first | assumption | exact gr_refl _ | refine gr_alloc ?_ _ | refine gr_drew ?_ | refine gr_drewN ?_ _ | refine gr_ext ?_ _ | (refine gr_set ?_ ?_ _; rotate_left; (simp <;> omega))))⟩
    · have E := Lib.hid (like_diff h g)
      have h' : decide (f.sh i < 0) = true := decide_eq_true h
      have g' : decide (f.sh k < 0) = false := decide_eq_false g
      go_enter Tryd.func45, Tryd.ntmps45
      go_wp2
      refine wp_region_ext (by kernel_rfl) (by kernel_rfl) ?_
      repeat (go_big_quiet_step (fail))
      refine wpQuiet_nil ?_
      rintro _ ⟨x1, rfl⟩
      go_wp2
      go_ret
      exact ⟨ret_i E.out.symm, Grew.of (by repeat (first | assumption | exact gr_refl _ | refine gr_alloc ?_ _ | refine gr_drew ?_ | refine gr_drewN ?_ _ | refine gr_ext ?_ _ | (refine gr_set ?_ ?_ _; rotate_left; (simp <;> omega))))⟩
  · by_cases g : f.sh k < 0
    · have E := Lib.hid (like_diff2 h g)
      have h' : decide (f.sh i < 0) = false := decide_eq_false h
      have g' : decide (f.sh k < 0) = true := decide_eq_true g
      go_enter Tryd.func45, Tryd.ntmps45
      go_wp2
      refine wp_region_ext (by kernel_rfl) (by kernel_rfl) ?_
      repeat (go_big_quiet_step (fail))
      refine wpQuiet_nil ?_
      rintro _ ⟨x1, rfl⟩
      go_wp2
      go_ret
      exact ⟨ret_i E.out.symm, Grew.of (by repeat (first | assumption | exact gr_refl _ | refine gr_alloc ?_ _ | refine gr_drew ?_ | refine gr_drewN ?_ _ | refine gr_ext ?_ _ | (refine gr_set ?_ ?_ _; rotate_left; (simp <;> omega))))⟩
    · have E := Lib.hid (like_near h g)
      have h' : decide (f.sh i < 0) = false := decide_eq_false h
      have g' : decide (f.sh k < 0) = false := decide_eq_false g
      have pos : 0 < held (addF 65536 (mulF 262144 (absF (subF (f.d i) (f.d k))))) := held_pos (one_more (mulF_nonneg (by omega) (absF_bd _).1))
      go_enter Tryd.func45, Tryd.ntmps45
      go_wp2
      refine wp_region_ext (by kernel_rfl) (by kernel_rfl) ?_
      repeat (go_big_quiet_step (fail))
      refine wpQuiet_nil ?_
      rintro _ ⟨x1, rfl⟩
      have s1 := x1.size_val
      (try simp at s1)
      have e1 : w.heap.size < x1.val.heap.size := by omega
      have eS1 : bS < x1.val.heap.size := by omega
      have eD1 : bD < x1.val.heap.size := by omega
      have eN1 : bN < x1.val.heap.size := by omega
      go_wp2
      refine wp_region_ext (by kernel_rfl) (by kernel_rfl) ?_
      repeat (go_big_quiet_step ((first | (go_at_call 61; exact Calls.grew _ (dot_any _ _ _ _ _ _ _)) | (go_at_call 60; exact Calls.ext_same _ (unit_any _ _)))))
      refine wpQuiet_nil ?_
      rintro _ ⟨x2, rfl⟩
      have s2 := x2.size_val
      (try simp at s2)
      have e2 : w.heap.size < x2.val.heap.size := by omega
      have eS2 : bS < x2.val.heap.size := by omega
      have eD2 : bD < x2.val.heap.size := by omega
      have eN2 : bN < x2.val.heap.size := by omega
      go_wp2
      refine wp_region_ext (by kernel_rfl) (by kernel_rfl) ?_
      repeat (go_big_quiet_step ((first | (go_at_call 63; exact Calls.ext_same _ (fsub_any _ _ _)) | (go_at_call 62; exact Calls.ext_same _ (abs_any _ _)))))
      refine wpQuiet_nil ?_
      rintro _ ⟨x3, rfl⟩
      go_wp2_with (first | (go_at_call 44; refine (fmul_any _ _ _).mono ?_; rintro e w' ⟨rfl, rfl⟩) | (go_at_call 31; refine (fadd_any _ _ _).mono ?_; rintro e w' ⟨rfl, rfl⟩) | (go_at_call 32; refine (fdivP_any _ _ _ pos).mono ?_; rintro e w' ⟨rfl, rfl⟩))
      go_ret
      exact ⟨ret_i E.out.symm, Grew.of (by repeat (first | assumption | exact gr_refl _ | refine gr_alloc ?_ _ | refine gr_drew ?_ | refine gr_drewN ?_ _ | refine gr_ext ?_ _ | (refine gr_set ?_ ?_ _; rotate_left; (simp <;> omega))))⟩
end Go.Proofs.YtneegcnidoopmaaDoor
