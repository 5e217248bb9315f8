/- Contracts of law20.light and law20.awake. Conditions: the table of taps is as laid. -/
import Derived.Test.YtneegcnidoopmaaDoorLm
namespace Go.Proofs.YtneegcnidoopmaaDoor
open Go.RowKit

def lightB (a b c : Nat) : Bool := decide (a ≤ 100 ∧ b ≤ 100 ∧ c ≤ 100)
theorem lightB_t {a b c : Nat} (h1 : a ≤ 100) (h2 : b ≤ 100) (h3 : c ≤ 100) : lightB a b c = true := decide_eq_true ⟨h1, h2, h3⟩
theorem lightB_f {a b c : Nat} (h : ¬ (a ≤ 100 ∧ b ≤ 100 ∧ c ≤ 100)) : lightB a b c = false := decide_eq_false h
set_option maxHeartbeats 1000000 in
theorem light_any (W H : Int) (AL AD AN AB AS AF : Option Addr) (nL cL nD cD nN cN nB cB nS cS nF cF : Nat) (W2 H2 : Int) (A2 : Option Addr) (n2 c2 : Nat) (w : World) :
    Calls Tryd.prog 6 #[.agg #[.int .i64 W, .int .i64 H, .slice AL nL cL, .slice AD nD cD, .slice AN nN cN, .slice AB nB cB, .slice AS nS cS, .slice AF nF cF], .agg #[.int .i64 W2, .int .i64 H2, .slice A2 n2 c2]] w fun e w' => e = .returned (.bool (lightB nL nS n2)) ∧ Grew w w' := by
  by_cases h1 : nL ≤ 100
  · by_cases h2 : nS ≤ 100
    · by_cases h3 : n2 ≤ 100
      · have E := Lib.hid (lightB_t h1 h2 h3)
        have d3 : decide ((n2 : Int) ≤ 100) = true := decide_eq_true (by omega)
        go_enter Tryd.func6, Tryd.ntmps6
        go_wp2
        go_ret
        exact ⟨ret_b E.out.symm, Grew.of (by repeat (first | assumption | exact gr_refl _ | refine gr_alloc ?_ _ | refine gr_drew ?_ | refine gr_drewN ?_ _ | refine gr_ext ?_ _ | (refine gr_set ?_ ?_ _; rotate_left; (simp <;> omega))))⟩
      · have E := Lib.hid (lightB_f (a := nL) (b := nS) (c := n2) (fun h => h3 h.2.2))
        have d3 : decide ((n2 : Int) ≤ 100) = false := decide_eq_false (by omega)
        go_enter Tryd.func6, Tryd.ntmps6
        go_wp2
        go_ret
        exact ⟨ret_b E.out.symm, Grew.of (by repeat (first | assumption | exact gr_refl _ | refine gr_alloc ?_ _ | refine gr_drew ?_ | refine gr_drewN ?_ _ | refine gr_ext ?_ _ | (refine gr_set ?_ ?_ _; rotate_left; (simp <;> omega))))⟩
    · have E := Lib.hid (lightB_f (a := nL) (b := nS) (c := n2) (fun h => h2 h.2.1))
      have d3 : decide ((nS : Int) ≤ 100) = false := decide_eq_false (by omega)
      go_enter Tryd.func6, Tryd.ntmps6
      go_wp2
      go_ret
      exact ⟨ret_b E.out.symm, Grew.of (by repeat (first | assumption | exact gr_refl _ | refine gr_alloc ?_ _ | refine gr_drew ?_ | refine gr_drewN ?_ _ | refine gr_ext ?_ _ | (refine gr_set ?_ ?_ _; rotate_left; (simp <;> omega))))⟩
  · have E := Lib.hid (lightB_f (a := nL) (b := nS) (c := n2) (fun h => h1 h.1))
    have d3 : decide ((nL : Int) ≤ 100) = false := decide_eq_false (by omega)
    go_enter Tryd.func6, Tryd.ntmps6
    go_wp2
    go_ret
    exact ⟨ret_b E.out.symm, Grew.of (by repeat (first | assumption | exact gr_refl _ | refine gr_alloc ?_ _ | refine gr_drew ?_ | refine gr_drewN ?_ _ | refine gr_ext ?_ _ | (refine gr_set ?_ ?_ _; rotate_left; (simp <;> omega))))⟩

/-! ### One pixel -/
theorem tap_one {e : Env} (hl : e.l ≤ 4) (hW : e.W = 1) (hH : e.H = 1) {ac dn : Int} (h : ac ≠ 0 ∨ dn ≠ 0) (s : Acc) : e.tap 0 0 0 ac dn s = s := by
  refine tap_out rfl rfl fun ⟨h1, h2, h3, h4⟩ => ?_
  rw [hW] at h2
  rw [hH] at h4
  have hb := pw_bd hl
  have za : ac * pw e.l = 0 := by omega
  have zd : dn * pw e.l = 0 := by omega
  rcases Int.mul_eq_zero.1 za with z | z
  · rcases Int.mul_eq_zero.1 zd with z' | z'
    · rcases h with h | h <;> contradiction
    · omega
  · omega
theorem rows_one {e : Env} (hl : e.l ≤ 4) (hW : e.W = 1) (hH : e.H = 1) : e.rows 0 0 0 5 = e.add 0 0 0 0 ⟨0, 0, 0, 0⟩ := by
  have t := fun ac dn h s => tap_one (e := e) hl hW hH (ac := ac) (dn := dn) h s
  have c : ∀ s, e.tap 0 0 0 0 0 s = e.add 0 0 0 0 s := fun s => tap_in (u := 0) (v := 0) (by simp) (by simp) (by omega) (by omega) (by omega) (by omega) (by simp)
  have r0 : ∀ p : Nat, p ≠ 2 → ∀ s, e.row 0 0 0 p s 5 = s := by
    intro p hp s
    have hp' : (p : Int) - 2 ≠ 0 := by omega
    rw [row_succ, t _ _ (.inr hp'), row_succ, t _ _ (.inr hp'), row_succ, t _ _ (.inr hp'), row_succ, t _ _ (.inr hp'), row_succ, t _ _ (.inr hp')]
    rfl
  rw [rows_succ, r0 4 (by omega), rows_succ, r0 3 (by omega), rows_succ, rows_succ, r0 1 (by omega), rows_succ, r0 0 (by omega)]
  show e.row 0 0 0 2 ⟨0, 0, 0, 0⟩ 5 = _
  rw [row_succ, t _ _ (.inl (by decide)), row_succ, t _ _ (.inl (by decide)), row_succ, show (((2 : Nat) : Int) - 2) = 0 from rfl, c, row_succ, t _ _ (.inl (by decide)), row_succ, t _ _ (.inl (by decide))]
  rfl
theorem at_one {e : Env} (hl : e.l ≤ 4) (hW : e.W = 1) (hH : e.H = 1) (hR : e.R 0 = 65536) (hG : e.G 0 = 65536) (hB : e.B 0 = 65536) : e.at 0 = (65536, 65536, 65536) := by
  unfold Env.at
  rw [hW]
  show e.px 0 0 0 = _
  unfold Env.px
  rw [rows_one hl hW hH]
  unfold Env.add
  rw [hR, hG, hB, wt_self]
  decide
theorem smo_one (f : Flm) : ∀ l, l ≤ 5 → smo f 1 1 (fun _ => (65536, 65536, 65536)) l 0 = (65536, 65536, 65536)
  | 0, _ => rfl
  | l + 1, h => by
    have ih := smo_one f l (by omega)
    show (envOf f 1 1 (smo f 1 1 _ l) l).at 0 = _
    exact at_one (by show l ≤ 4; omega) rfl rfl (by show (smo f 1 1 _ l 0).1 = _; rw [ih]) (by show (smo f 1 1 _ l 0).2.1 = _; rw [ih]) (by show (smo f 1 1 _ l 0).2.2 = _; rw [ih])
def oneF : Flm := ⟨fun _ => -1, fun _ => 0, fun _ => 0, fun _ => 0, fun _ => 0⟩

set_option maxRecDepth 100000 in
set_option maxHeartbeats 4000000 in
theorem awake20_any (w : World) (hT : TapsIn w) : Calls Tryd.prog 7 #[] w fun e w' => e = .returned (.bool true) ∧ Grew w w' := by
  have HT := Lib.hid hT
  clear hT
  go_enter Tryd.func7, Tryd.ntmps7
  go_wp2_with (go_at_call 19; refine (gray_any _ _).mono ?_; rintro e w' ⟨rfl, x1, rfl⟩)
  refine (smooth_any oneF 1 1 (fun _ => (65536, 65536, 65536)) (fun _ => -1) (fun _ => -1) rfl _ _ _ _ _ _ _ 1 1 1 1 1 1 1 1 1 _ (filmB_t ⟨by decide, rfl, rfl, rfl, rfl, rfl, fun j hj => by simp only; omega⟩) (by decide) (HT.out.below (by repeat (first | assumption | exact gr_refl _ | refine gr_alloc ?_ _ | refine gr_drew ?_ | refine gr_drewN ?_ _ | refine gr_ext ?_ _ | (refine gr_set ?_ ?_ _; rotate_left; (simp <;> omega))))) ?_ ?_ ?_ ?_ ?_).mono ?_
  · intro _; refine ⟨_, _, rfl, fun i hi => ?_⟩; obtain rfl : i = 0 := by omega
    go_simp
  · intro _; refine ⟨_, _, rfl, fun i hi => ?_⟩; obtain rfl : i = 0 := by omega
    go_simp
  · intro _; refine ⟨_, _, rfl, fun i hi => ?_⟩; obtain rfl : i = 0 := by omega
    go_simp
    rfl
  · intro _; refine ⟨_, _, rfl, fun i hi => ?_⟩; obtain rfl : i = 0 := by omega
    go_simp
    exact ⟨rfl, rfl, rfl⟩
  · intro _; refine ⟨_, _, rfl, fun i hi => ?_⟩; obtain rfl : i = 0 := by omega
    go_simp
  rintro e w2 ⟨A, cap, rfl, hc, _, hb⟩
  obtain ⟨b, off, rfl, hcell⟩ := hc (by omega)
  obtain ⟨q0, q1, q2⟩ := hcell 0 (by omega)
  simp only [smo_one oneF 5 (by omega)] at q0 q1 q2
  have lb := World.block_lt_of_cell? _ _ q0
  simp only [Nat.zero_mul, Nat.add_zero] at q0 q1 q2
  have HB := Lib.hid hb
  clear hc hcell hb
  go_wp2
  refine wp_region_ext (by kernel_rfl) (by kernel_rfl) ?_
  repeat (go_big_quiet_step ((first | (go_at_call 19; exact Calls.grew _ (gray_any _ _)))))
  refine wpQuiet_nil ?_
  rintro _ ⟨x3, rfl⟩
  go_wp2
  go_ret
  exact ⟨rfl, Grew.of (gr_ext (gr_alloc (gr_below (by repeat (first | assumption | exact gr_refl _ | refine gr_alloc ?_ _ | refine gr_drew ?_ | refine gr_drewN ?_ _ | refine gr_ext ?_ _ | (refine gr_set ?_ ?_ _; rotate_left; (simp <;> omega)))) HB.out) _) x3)⟩
end Go.Proofs.YtneegcnidoopmaaDoor
