/- LaceLevels and LaceSmooths: the laws. Conditions: the rows lie behind their slices; the sizes named; the table of taps is as laid. -/
import Derived.Test.YtneegcnidoopmaaDoorLz
namespace Go.Proofs.YtneegcnidoopmaaDoor
open Go.RowKit

set_option maxHeartbeats 1000000 in
theorem levels_law (W H : Int) (AL AD AN AB AS AF : Option Addr) (nL cL nD cD nN cN nB cB nS cS nF cF : Nat) (R G B D NX NY NZ BR BG BB S F : Nat → Int) (W2 H2 : Int) (A2 : Option Addr) (n2 c2 : Nat) (R2 G2 B2 : Nat → Int) (lv : Int) (w : World)
    (rD : nD * 8 ≤ 140737488355328) (rN : nN * 24 ≤ 140737488355328) (rB : nB * 24 ≤ 140737488355328) (rS : nS * 8 ≤ 140737488355328) (rF : nF * 8 ≤ 140737488355328) (hT : TapsIn w)
    (hL : CellsH w AL nL R G B) (hD : CellsI w AD nD D) (hN : CellsH w AN nN NX NY NZ) (hB : CellsH w AB nB BR BG BB) (hS : CellsI w AS nS S) (hF : CellsI w AF nF F) (hL2 : CellsH w A2 n2 R2 G2 B2) (nilS : AS = none → nS = 0 ∧ cS = 0) (nilF : AF = none → nF = 0 ∧ cF = 0) :
    Calls Tryd.prog 3 #[.agg #[.int .i64 W, .int .i64 H, .slice AL nL cL, .slice AD nD cD, .slice AN nN cN, .slice AB nB cB, .slice AS nS cS, .slice AF nF cF], .agg #[.int .i64 W2, .int .i64 H2, .slice A2 n2 c2], .int .i64 lv] w fun e w' => e = .returned (.bool true) ∧ Grew w w' := by
  by_cases hl : lightB nL nS n2 = true
  · by_cases hok : LevOk W H nL nD nN nB nS nF S F W2 H2 n2 lv
    · obtain ⟨h1, h2, rfl, rfl, h3, h4⟩ := hok
      obtain ⟨hp1, e1, e2, e3, e4, e5, _⟩ := filmB_out h1
      obtain ⟨_, z1⟩ := picB_out hp1
      obtain ⟨_, z2⟩ := picB_out h2
      have hz := picB_len h2
      obtain rfl : nL = n2 := by omega
      subst e1 e2 e3 e4 e5
      obtain ⟨l, rfl⟩ : ∃ l : Nat, lv = l := ⟨lv.toNat, by omega⟩
      let e : Env := ⟨⟨S, D, NX, NY, NZ⟩, R2, G2, B2, l, W, H⟩
      refine levels_walk _ _ _ _ _ _ _ _ _ _ _ _ _ _ _ _ _ _ _ _ _ _ _ _ _ _ _ _ _ _ _ _ _ _ _ _ _ _ _ _ _ _ W H nF (fun i => (e.at i).1) (fun i => (e.at i).2.1) (fun i => (e.at i).2.2) 0 (by omega) hl rD rN rB rS rF hT hL hD hN hB hS hF hL2 nilS nilF ?_ ?_
      · rintro wz hb v1 v3 ⟨vL, vD, vN, vB, vS, vF, rfl, ⟨_, _, rfl, k1, _⟩, ⟨_, _, rfl, k2, _⟩, ⟨_, _, rfl, k3, _⟩, ⟨_, _, rfl, k4, _⟩, ⟨_, _, rfl, k5, _⟩, ⟨_, _, rfl, k6, _⟩⟩ ⟨_, _, rfl, k7, _⟩
        refine (level_any e (by show l ≤ 4; omega) S F rfl _ _ _ _ _ _ _ _ _ _ _ _ _ _ _ _ _ h1 h2 (hT.below hb) k5 k6 k2 k3 k7).mono ?_
        rintro e' w' ⟨v, rfl, ho, hb'⟩
        obtain ⟨A', cap', rfl, hcap, hc'⟩ := ho.hues
        exact ⟨_, rfl, ⟨A', cap', rfl, hc', fun _ => ho.typ⟩, hb'⟩
      · intro wz hb
        refine (rlevel_any e (by show l ≤ 4; omega) S F rfl _ _ _ _ _ _ _ _ _ _ _ _ _ _ _ _ _ h1 h2 (hS.below hb) (hF.below hb) (hD.below hb) (hN.below hb) (hL2.below hb)).mono ?_
        rintro e' w' ⟨v, rfl, ho, hb'⟩
        obtain ⟨A', cap', rfl, hcap, hc'⟩ := ho.hues
        exact ⟨_, rfl, ⟨A', cap', rfl, hc', fun _ => ho.typ⟩, hb'⟩
    · refine levels_walk _ _ _ _ _ _ _ _ _ _ _ _ _ _ _ _ _ _ _ _ _ _ _ _ _ _ _ _ _ _ _ _ _ _ _ _ _ _ _ _ _ _ 0 0 0 (fun _ => 0) (fun _ => 0) (fun _ => 0) 1 (by omega) hl rD rN rB rS rF hT hL hD hN hB hS hF hL2 nilS nilF ?_ ?_
      · rintro wz hb v1 v3 ⟨vL, vD, vN, vB, vS, vF, rfl, ⟨_, _, rfl, k1, _⟩, ⟨_, _, rfl, k2, _⟩, ⟨_, _, rfl, k3, _⟩, ⟨_, _, rfl, k4, _⟩, ⟨_, _, rfl, k5, _⟩, ⟨_, _, rfl, k6, _⟩⟩ ⟨_, _, rfl, k7, _⟩
        refine (level_bad W H _ _ _ _ _ _ _ _ _ _ _ _ _ _ _ _ _ _ S F W2 H2 _ _ _ lv _ k5 k6 hok).mono ?_
        rintro e' w' ⟨rfl, hg⟩
        exact ⟨_, rfl, ⟨none, 0, rfl, fun h0 => absurd h0 (by omega), fun h0 => absurd h0 (by omega)⟩, hg.out⟩
      · intro wz hb
        refine (rlevel_bad W H _ _ _ _ _ _ _ _ _ _ _ _ _ _ _ _ _ _ S F W2 H2 _ _ _ lv _ (hS.below hb) (hF.below hb) hok).mono ?_
        rintro e' w' ⟨rfl, hg⟩
        exact ⟨_, rfl, ⟨none, 0, rfl, fun h0 => absurd h0 (by omega), fun h0 => absurd h0 (by omega)⟩, hg.out⟩
  · have HL : Hid (lightB nL nS n2 = false) := Lib.hid (by simpa using hl)
    have HT := Lib.hid hT
    clear hl hT hL hD hN hB hS hF hL2 nilS nilF
    go_enter Tryd.func3, Tryd.ntmps3
    go_wp2_with fail
    refine (light_any _ _ _ _ _ _ _ _ _ _ _ _ _ _ _ _ _ _ _ _ _ _ _ _ _ _).mono ?_
    rintro e w' ⟨rfl, x1, rfl⟩
    rw [HL.out]
    go_wp2_with fail
    refine (awake20_any _ (HT.out.below (by repeat (first | assumption | exact gr_refl _ | refine gr_alloc ?_ _ | refine gr_drew ?_ | refine gr_drewN ?_ _ | refine gr_ext ?_ _ | (refine gr_set ?_ ?_ _; rotate_left; (simp <;> omega)))))).mono ?_
    rintro e w2 ⟨rfl, x2, rfl⟩
    go_wp2
    go_ret
    exact ⟨rfl, Grew.of (by repeat (first | assumption | exact gr_refl _ | refine gr_alloc ?_ _ | refine gr_drew ?_ | refine gr_drewN ?_ _ | refine gr_ext ?_ _ | (refine gr_set ?_ ?_ _; rotate_left; (simp <;> omega))))⟩

set_option maxHeartbeats 1000000 in
theorem smooths_law (W H : Int) (AL AD AN AB AS AF : Option Addr) (nL cL nD cD nN cN nB cB nS cS nF cF : Nat) (R G B D NX NY NZ BR BG BB S F : Nat → Int) (W2 H2 : Int) (A2 : Option Addr) (n2 c2 : Nat) (R2 G2 B2 : Nat → Int) (w : World)
    (rD : nD * 8 ≤ 140737488355328) (rN : nN * 24 ≤ 140737488355328) (rB : nB * 24 ≤ 140737488355328) (rS : nS * 8 ≤ 140737488355328) (rF : nF * 8 ≤ 140737488355328) (hT : TapsIn w)
    (hL : CellsH w AL nL R G B) (hD : CellsI w AD nD D) (hN : CellsH w AN nN NX NY NZ) (hB : CellsH w AB nB BR BG BB) (hS : CellsI w AS nS S) (hF : CellsI w AF nF F) (hL2 : CellsH w A2 n2 R2 G2 B2) (nilS : AS = none → nS = 0 ∧ cS = 0) (nilF : AF = none → nF = 0 ∧ cF = 0) :
    Calls Tryd.prog 4 #[.agg #[.int .i64 W, .int .i64 H, .slice AL nL cL, .slice AD nD cD, .slice AN nN cN, .slice AB nB cB, .slice AS nS cS, .slice AF nF cF], .agg #[.int .i64 W2, .int .i64 H2, .slice A2 n2 c2]] w fun e w' => e = .returned (.bool true) ∧ Grew w w' := by
  by_cases hl : lightB nL nS n2 = true
  · by_cases hok : LevOk W H nL nD nN nB nS nF S F W2 H2 n2 0
    · obtain ⟨h1, h2, rfl, rfl, h3, h4⟩ := hok
      obtain ⟨hp1, e1, e2, e3, e4, e5, _⟩ := filmB_out h1
      obtain ⟨_, z1⟩ := picB_out hp1
      obtain ⟨_, z2⟩ := picB_out h2
      have hz := picB_len h2
      obtain rfl : nL = n2 := by omega
      subst e1 e2 e3 e4 e5
      let f : Flm := ⟨S, D, NX, NY, NZ⟩
      let Z : Nat → Int × Int × Int := fun i => (R2 i, G2 i, B2 i)
      refine smooths_walk _ _ _ _ _ _ _ _ _ _ _ _ _ _ _ _ _ _ _ _ _ _ _ _ _ _ _ _ _ _ _ _ _ _ _ _ _ _ _ _ _ W H nF (fun i => (smo f W H Z 5 i).1) (fun i => (smo f W H Z 5 i).2.1) (fun i => (smo f W H Z 5 i).2.2) 0 (by omega) hl rD rN rB rS rF hT hL hD hN hB hS hF hL2 nilS nilF ?_ ?_
      · rintro wz hb v1 v3 ⟨vL, vD, vN, vB, vS, vF, rfl, ⟨_, _, rfl, k1, _⟩, ⟨_, _, rfl, k2, _⟩, ⟨_, _, rfl, k3, _⟩, ⟨_, _, rfl, k4, _⟩, ⟨_, _, rfl, k5, _⟩, ⟨_, _, rfl, k6, _⟩⟩ ⟨_, _, rfl, k7, _⟩
        refine (smooth_any f W H Z S F rfl _ _ _ _ _ _ _ _ _ _ _ _ _ _ _ _ _ h1 h2 (hT.below hb) k5 k6 k2 k3 k7).mono ?_
        rintro e' w' ⟨A', cap', rfl, hc', ht', hb'⟩
        exact ⟨_, rfl, ⟨A', cap', rfl, hc', fun _ => ht'⟩, hb'⟩
      · intro wz hb
        refine (rsmooth_any f W H Z S F rfl _ _ _ _ _ _ _ _ _ _ _ _ _ _ _ _ _ h1 h2 (hS.below hb) (hF.below hb) (hD.below hb) (hN.below hb) (hL2.below hb)).mono ?_
        rintro e' w' ⟨A', cap', rfl, hc', ht', hb'⟩
        exact ⟨_, rfl, ⟨A', cap', rfl, hc', fun _ => ht'⟩, hb'⟩
    · refine smooths_walk _ _ _ _ _ _ _ _ _ _ _ _ _ _ _ _ _ _ _ _ _ _ _ _ _ _ _ _ _ _ _ _ _ _ _ _ _ _ _ _ _ 0 0 0 (fun _ => 0) (fun _ => 0) (fun _ => 0) 1 (by omega) hl rD rN rB rS rF hT hL hD hN hB hS hF hL2 nilS nilF ?_ ?_
      · rintro wz hb v1 v3 ⟨vL, vD, vN, vB, vS, vF, rfl, ⟨_, _, rfl, k1, _⟩, ⟨_, _, rfl, k2, _⟩, ⟨_, _, rfl, k3, _⟩, ⟨_, _, rfl, k4, _⟩, ⟨_, _, rfl, k5, _⟩, ⟨_, _, rfl, k6, _⟩⟩ ⟨_, _, rfl, k7, _⟩
        refine (smooth_bad W H _ _ _ _ _ _ _ _ _ _ _ _ _ _ _ _ _ _ S F W2 H2 _ _ _ _ k5 k6 hok).mono ?_
        rintro e' w' ⟨rfl, hg⟩
        exact ⟨_, rfl, ⟨none, 0, rfl, fun h0 => absurd h0 (by omega), fun h0 => absurd h0 (by omega)⟩, hg.out⟩
      · intro wz hb
        refine (rsmooth_bad W H _ _ _ _ _ _ _ _ _ _ _ _ _ _ _ _ _ _ S F W2 H2 _ _ _ _ (hS.below hb) (hF.below hb) hok).mono ?_
        rintro e' w' ⟨rfl, hg⟩
        exact ⟨_, rfl, ⟨none, 0, rfl, fun h0 => absurd h0 (by omega), fun h0 => absurd h0 (by omega)⟩, hg.out⟩
  · have HL : Hid (lightB nL nS n2 = false) := Lib.hid (by simpa using hl)
    have HT := Lib.hid hT
    clear hl hT hL hD hN hB hS hF hL2 nilS nilF
    go_enter Tryd.func4, Tryd.ntmps4
    go_wp2_with fail
    refine (light_any _ _ _ _ _ _ _ _ _ _ _ _ _ _ _ _ _ _ _ _ _ _ _ _ _ _).mono ?_
    rintro e w' ⟨rfl, x1, rfl⟩
    rw [HL.out]
    go_wp2_with fail
    refine (awake20_any _ (HT.out.below (by repeat (first | assumption | exact gr_refl _ | refine gr_alloc ?_ _ | refine gr_drew ?_ | refine gr_drewN ?_ _ | refine gr_ext ?_ _ | (refine gr_set ?_ ?_ _; rotate_left; (simp <;> omega)))))).mono ?_
    rintro e w2 ⟨rfl, x2, rfl⟩
    go_wp2
    go_ret
    exact ⟨rfl, Grew.of (by repeat (first | assumption | exact gr_refl _ | refine gr_alloc ?_ _ | refine gr_drew ?_ | refine gr_drewN ?_ _ | refine gr_ext ?_ _ | (refine gr_set ?_ ?_ _; rotate_left; (simp <;> omega))))⟩
end Go.Proofs.YtneegcnidoopmaaDoor
