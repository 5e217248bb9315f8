/- Contracts of lace.near, ref20.Power, Tap, Alike. Conditions: the film's rows lie behind their slices; the pixels lie in them; the level is at most 4. -/
import Derived.Test.YtneegcnidoopmaaDoorLb
namespace Go.Proofs.YtneegcnidoopmaaDoor
open Go.RowKit

def pw : Nat → Int
  | 0 => 1
  | k + 1 => 2 * pw k
theorem pw_bd : ∀ {k : Nat}, k ≤ 4 → 1 ≤ pw k ∧ pw k ≤ 16
  | 0, _ => by decide
  | 1, _ => by decide
  | 2, _ => by decide
  | 3, _ => by decide
  | 4, _ => by decide
  | k + 5, h => by omega
theorem pw_step (k : Nat) : pw (k + 1) = 2 * pw k := rfl
def nearF (l : Nat) (a0 a1 a2 b0 b1 b2 : Int) : Int := divP 65536 (addF 65536 (mulF (2 * pw l * 65536) (diffF a0 a1 a2 b0 b1 b2)))
theorem near_pos (l : Nat) (hl : l ≤ 4) (a0 a1 a2 b0 b1 b2 : Int) : 0 < addF 65536 (mulF (2 * pw l * 65536) (diffF a0 a1 a2 b0 b1 b2)) := one_more (mulF_nonneg (by have := pw_bd hl; omega) (diffF_nonneg ..))
theorem nearF_nonneg (l : Nat) (hl : l ≤ 4) (a0 a1 a2 b0 b1 b2 : Int) : 0 ≤ nearF l a0 a1 a2 b0 b1 b2 := divP_nonneg (by omega) (near_pos l hl ..)
def tapF (a : Int) : Int := if a = 0 then 6 else if a = 1 ∨ a = -1 then 4 else 1
theorem tapF_bd (a : Int) : 1 ≤ tapF a ∧ tapF a ≤ 6 := by unfold tapF; split <;> (try split) <;> omega
theorem tapF_mul (a b : Int) : 1 ≤ tapF a * tapF b ∧ tapF a * tapF b ≤ 36 := by
  have ha := tapF_bd a
  have hb := tapF_bd b
  have h1 := Int.mul_le_mul (a := 1) (b := 1) (c := tapF a) (d := tapF b) ha.1 hb.1 (by omega) (by omega)
  have h2 := Int.mul_le_mul (a := tapF a) (b := tapF b) (c := 6) (d := 6) ha.2 hb.2 (by omega) (by omega)
  omega

theorem shl2 : ∀ {l : Nat}, l ≤ 4 → wrap64 (2 * 2 ^ l) = 2 * pw l
  | 0, _ => by rw [IntWalk.wrap64_in _ ⟨by decide, by decide⟩]; decide
  | 1, _ => by rw [IntWalk.wrap64_in _ ⟨by decide, by decide⟩]; decide
  | 2, _ => by rw [IntWalk.wrap64_in _ ⟨by decide, by decide⟩]; decide
  | 3, _ => by rw [IntWalk.wrap64_in _ ⟨by decide, by decide⟩]; decide
  | 4, _ => by rw [IntWalk.wrap64_in _ ⟨by decide, by decide⟩]; decide
  | l + 5, h => by omega
theorem shl1 : ∀ {l : Nat}, l ≤ 4 → wrap64 (2 ^ l) = pw l
  | 0, _ => by rw [IntWalk.wrap64_in _ ⟨by decide, by decide⟩]; decide
  | 1, _ => by rw [IntWalk.wrap64_in _ ⟨by decide, by decide⟩]; decide
  | 2, _ => by rw [IntWalk.wrap64_in _ ⟨by decide, by decide⟩]; decide
  | 3, _ => by rw [IntWalk.wrap64_in _ ⟨by decide, by decide⟩]; decide
  | 4, _ => by rw [IntWalk.wrap64_in _ ⟨by decide, by decide⟩]; decide
  | l + 5, h => by omega

set_option maxHeartbeats 1000000 in
theorem near_any (l : Nat) (hl : l ≤ 4) (a0 a1 a2 b0 b1 b2 : Int) (w : World) : Calls Tryd.prog 46 #[.agg #[.int .i64 a0, .int .i64 a1, .int .i64 a2], .agg #[.int .i64 b0, .int .i64 b1, .int .i64 b2], .int .i64 l] w fun e w' => e = .returned (.int .i64 (nearF l a0 a1 a2 b0 b1 b2)) ∧ Grew w w' := by
  have pos : 0 < held (addF 65536 (mulF (2 * pw l * 65536) (diffF a0 a1 a2 b0 b1 b2))) := held_pos (near_pos l hl ..)
  have hb := pw_bd hl
  have hs := shl2 hl
  go_enter Tryd.func46, Tryd.ntmps46
  go_wp2
  refine wp_region_ext (by kernel_rfl) (by kernel_rfl) ?_
  repeat (go_big_quiet_step ((first | (go_at_call 47; exact Calls.ext_same _ (of_any _ _ (by omega) (by omega))) | (go_at_call 64; exact Calls.grew _ (diff_any _ _ _ _ _ _ _)) | (go_at_call 44; exact Calls.ext_same _ (fmul_any _ _ _)) | (go_at_call 31; exact Calls.ext_same _ (fadd_any _ _ _)) | (go_at_call 32; exact Calls.ext_same _ (fdivP_any _ _ _ pos)))))
  refine wpQuiet_nil ?_
  rintro _ ⟨x1, rfl⟩
  go_wp2
  go_ret
  exact ⟨rfl, Grew.of (by repeat (first | assumption | exact gr_refl _ | refine gr_alloc ?_ _ | refine gr_drew ?_ | refine gr_drewN ?_ _ | refine gr_ext ?_ _ | (refine gr_set ?_ ?_ _; rotate_left; (simp <;> omega))))⟩
theorem power_any (l : Nat) (hl : l ≤ 4) (w : World) : Calls Tryd.prog 34 #[.int .i64 l] w fun e w' => e = .returned (.int .i64 (pw l)) ∧ w = w' := by
  go_enter Tryd.func34, Tryd.ntmps34
  go_wp2
  go_loop [3, 4] (fun p i => ∃ k : Nat, k ≤ l ∧ i = .int .i64 k ∧ p = .int .i64 (pw k)) (fun _ i => l - (intOf i).toNat)
  case atStart => exact ⟨0, by omega, rfl, rfl⟩
  case round =>
    obtain ⟨k, hk, rfl, rfl⟩ := hrel
    by_cases hlt : k < l
    · have hb := pw_bd (k := k) (by omega)
      have e := pw_step k
      have E := Lib.hid e
      clear e
      go_wp2
      go_round
      case rel => exact ⟨k + 1, by omega, by go_num, by rw [E.out]⟩
      case measure => simp [intOf]; omega
    · obtain rfl : k = l := by omega
      go_wp2
      go_ret
      exact ⟨rfl, rfl⟩
theorem tap_any (a : Int) (h1 : -2 ≤ a) (h2 : a ≤ 2) (w : World) : Calls Tryd.prog 41 #[.int .i64 a] w fun e w' => e = .returned (.int .i64 (tapF a)) ∧ w = w' := by
  have : a = 0 ∨ a = 1 ∨ a = 2 ∨ a = -1 ∨ a = -2 := by omega
  rcases this with rfl | rfl | rfl | rfl | rfl
  all_goals
    go_enter Tryd.func41, Tryd.ntmps41
    go_wp2
    go_ret
    exact ⟨rfl, rfl⟩

set_option maxRecDepth 100000 in
set_option maxHeartbeats 2000000 in
theorem rlike_any (f : Flm) (W H : Int) (AL AD AN AB AS AF : Option Addr) (nL cL cD cN nB cB cS nF cF n : Nat) (i k : Nat) (w : World) (hi : i < n) (hk : k < n) (hn : n ≤ 1000000) (hS : CellsI w AS n f.sh) (hD : CellsI w AD n f.d) (hN : CellsH w AN n f.nx f.ny f.nz) :
    Calls Tryd.prog 38 #[.agg #[.int .i64 W, .int .i64 H, .slice AL nL cL, .slice AD n cD, .slice AN n cN, .slice AB nB cB, .slice AS n cS, .slice AF nF cF], .int .i64 i, .int .i64 k] w fun e w' => e = .returned (.int .i64 (f.like i k)) ∧ Grew w w' := by
  obtain ⟨bS, oS, rfl, cs⟩ := hS (by omega)
  obtain ⟨bD, oD, rfl, cd⟩ := hD (by omega)
  obtain ⟨bN, oN, rfl, cn⟩ := hN (by omega)
  have si := cs i hi
  have sk := cs k hk
  have di := cd i hi
  have dk := cd k hk
  obtain ⟨n0, n1, n2⟩ := cn i hi
  obtain ⟨m0, m1, m2⟩ := cn k hk
  have lS : bS < w.heap.size := World.block_lt_of_cell? _ _ si
  have lD : bD < w.heap.size := World.block_lt_of_cell? _ _ di
  have lN : bN < w.heap.size := World.block_lt_of_cell? _ _ n0
  have lS1 : bS < w.heap.size + 1 := by omega
  have lD1 : bD < w.heap.size + 1 := by omega
  have lN1 : bN < w.heap.size + 1 := by omega
  clear cs cd cn hS hD hN
  by_cases h : f.sh i < 0
  · by_cases g : f.sh k < 0
    · have E := Lib.hid (like_same h g)
      have h' : decide (0 ≤ f.sh i) = false := decide_eq_false (by omega)
      have g' : decide (0 ≤ f.sh k) = false := decide_eq_false (by omega)
      go_enter Tryd.func38, Tryd.ntmps38
      go_wp2
      refine wp_region_ext (by kernel_rfl) (by kernel_rfl) ?_
      repeat (go_big_quiet_step (fail))
      refine wpQuiet_nil ?_
      rintro _ ⟨x1, rfl⟩
      go_wp2
      go_ret
      exact ⟨ret_i E.out.symm, Grew.of (by repeat (first | assumption | exact gr_refl _ | refine gr_alloc ?_ _ | refine gr_drew ?_ | refine gr_drewN ?_ _ | refine gr_ext ?_ _ | (refine gr_set ?_ ?_ _; rotate_left; (simp <;> omega))))⟩
    · have E := Lib.hid (like_diff h g)
      have h' : decide (0 ≤ f.sh i) = false := decide_eq_false (by omega)
      have g' : decide (0 ≤ f.sh k) = true := decide_eq_true (by omega)
      go_enter Tryd.func38, Tryd.ntmps38
      go_wp2
      refine wp_region_ext (by kernel_rfl) (by kernel_rfl) ?_
      repeat (go_big_quiet_step (fail))
      refine wpQuiet_nil ?_
      rintro _ ⟨x1, rfl⟩
      go_wp2
      go_ret
      exact ⟨ret_i E.out.symm, Grew.of (by repeat (first | assumption | exact gr_refl _ | refine gr_alloc ?_ _ | refine gr_drew ?_ | refine gr_drewN ?_ _ | refine gr_ext ?_ _ | (refine gr_set ?_ ?_ _; rotate_left; (simp <;> omega))))⟩
  · by_cases g : f.sh k < 0
    · have E := Lib.hid (like_diff2 h g)
      have h' : decide (0 ≤ f.sh i) = true := decide_eq_true (by omega)
      have g' : decide (0 ≤ f.sh k) = false := decide_eq_false (by omega)
      go_enter Tryd.func38, Tryd.ntmps38
      go_wp2
      refine wp_region_ext (by kernel_rfl) (by kernel_rfl) ?_
      repeat (go_big_quiet_step (fail))
      refine wpQuiet_nil ?_
      rintro _ ⟨x1, rfl⟩
      go_wp2
      go_ret
      exact ⟨ret_i E.out.symm, Grew.of (by repeat (first | assumption | exact gr_refl _ | refine gr_alloc ?_ _ | refine gr_drew ?_ | refine gr_drewN ?_ _ | refine gr_ext ?_ _ | (refine gr_set ?_ ?_ _; rotate_left; (simp <;> omega))))⟩
    · have E := Lib.hid (like_near h g)
      have h' : decide (0 ≤ f.sh i) = true := decide_eq_true (by omega)
      have g' : decide (0 ≤ f.sh k) = true := decide_eq_true (by omega)
      have pos : 0 < held (addF 65536 (mulF 262144 (absF (subF (f.d i) (f.d k))))) := held_pos (one_more (mulF_nonneg (by omega) (absF_bd _).1))
      have POS := Lib.hid pos
      have D : Hid (f.near i k = mulF (unitF (dotF (f.nx i) (f.ny i) (f.nz i) (f.nx k) (f.ny k) (f.nz k))) (divP 65536 (addF 65536 (mulF 262144 (absF (subF (f.d i) (f.d k))))))) := Lib.hid rfl
      have d0 := subF_bd (f.d i) (f.d k)
      have A0 : Hid ((subF (f.d i) (f.d k) < 0 → absF (subF (f.d i) (f.d k)) = -(subF (f.d i) (f.d k))) ∧ (¬ subF (f.d i) (f.d k) < 0 → absF (subF (f.d i) (f.d k)) = subF (f.d i) (f.d k))) := Lib.hid ⟨abs_neg, abs_pos⟩
      clear pos
      go_enter Tryd.func38, Tryd.ntmps38
      go_wp2
      refine wp_region_ext (by kernel_rfl) (by kernel_rfl) ?_
      repeat (go_big_quiet_step (fail))
      refine wpQuiet_nil ?_
      rintro _ ⟨x1, rfl⟩
      have s1 := x1.size_val
      (try simp at s1)
      have e1 : w.heap.size < x1.val.heap.size := by omega
      have eD1 : bD < x1.val.heap.size := by omega
      have eN1 : bN < x1.val.heap.size := by omega
      go_wp2
      refine wp_region_ext_tail 11 (by kernel_rfl) (by kernel_rfl) ?_
      simp only [List.take_succ_cons, List.take_zero, List.drop_succ_cons, List.drop_zero]
      repeat (go_big_quiet_step ((first | (go_at_call 56; exact Calls.ext_same _ (rsub_any _ _ _)))))
      refine wpQuiet_nil ?_
      rintro _ ⟨x2, rfl⟩
      have s2 := x2.size_val
      have e2 : w.heap.size < x2.val.heap.size := by omega
      have eN2 : bN < x2.val.heap.size := by omega
      generalize subF (f.d i) (f.d k) = dd at *
      by_cases gd : dd < 0
      · have a1 := A0.out.1 gd
        rw [a1] at POS D
        have gd' : decide (dd < 0) = true := decide_eq_true gd
        clear A0 a1
        have P2 := POS.out
        go_wp2
        refine wp_region_ext_tail 17 (by kernel_rfl) (by kernel_rfl) ?_
        simp only [List.take_succ_cons, List.take_zero, List.drop_succ_cons, List.drop_zero]
        repeat (go_big_quiet_step ((first | (go_at_call 58; exact Calls.grew _ (rdot_any _ _ _ _ _ _ _)) | (go_at_call 57; exact Calls.ext_same _ (runit_any _ _)) | (go_at_call 35; exact Calls.ext_same _ (rmul_any _ _ _)) | (go_at_call 40; exact Calls.ext_same _ (radd_any _ _ _)) | (go_at_call 39; exact Calls.ext_same _ (rdivP_any _ _ _ P2)))))
        refine wpQuiet_nil ?_
        rintro _ ⟨x3, rfl⟩
        go_wp2
        go_ret
        exact ⟨ret_i (by rw [E.out, D.out]), Grew.of (by repeat (first | assumption | exact gr_refl _ | refine gr_alloc ?_ _ | refine gr_drew ?_ | refine gr_drewN ?_ _ | refine gr_ext ?_ _ | (refine gr_set ?_ ?_ _; rotate_left; (simp <;> omega))))⟩
      · have a1 := A0.out.2 (by omega)
        rw [a1] at POS D
        have gd' : decide (dd < 0) = false := decide_eq_false gd
        clear A0 a1
        have P2 := POS.out
        go_wp2
        refine wp_region_ext_tail 17 (by kernel_rfl) (by kernel_rfl) ?_
        simp only [List.take_succ_cons, List.take_zero, List.drop_succ_cons, List.drop_zero]
        repeat (go_big_quiet_step ((first | (go_at_call 58; exact Calls.grew _ (rdot_any _ _ _ _ _ _ _)) | (go_at_call 57; exact Calls.ext_same _ (runit_any _ _)) | (go_at_call 35; exact Calls.ext_same _ (rmul_any _ _ _)) | (go_at_call 40; exact Calls.ext_same _ (radd_any _ _ _)) | (go_at_call 39; exact Calls.ext_same _ (rdivP_any _ _ _ P2)))))
        refine wpQuiet_nil ?_
        rintro _ ⟨x3, rfl⟩
        go_wp2
        go_ret
        exact ⟨ret_i (by rw [E.out, D.out]), Grew.of (by repeat (first | assumption | exact gr_refl _ | refine gr_alloc ?_ _ | refine gr_drew ?_ | refine gr_drewN ?_ _ | refine gr_ext ?_ _ | (refine gr_set ?_ ?_ _; rotate_left; (simp <;> omega))))⟩
end Go.Proofs.YtneegcnidoopmaaDoor
