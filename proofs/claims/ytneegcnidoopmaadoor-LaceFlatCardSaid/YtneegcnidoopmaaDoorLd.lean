/- Contract of lace.weight. Conditions: the film's and the sheet's rows lie behind their slices; the pixels lie in them; the level is at most 4; the table of taps is as laid. -/
import Derived.Test.YtneegcnidoopmaaDoorLc
namespace Go.Proofs.YtneegcnidoopmaaDoor
open Go.RowKit

/-- The table of taps. -/
def TapsIn (w : World) : Prop := ∀ a : Nat, a ≤ 2 → w.cell? ⟨0, a, none⟩ = some (.int .i64 (tapF a))
theorem TapsIn.below {w w1 : World} (h : TapsIn w) (hb : Below w.heap.size w w1) : TapsIn w1 := fun a ha => cell_later hb (h a ha)
theorem tapF_neg (a : Int) : tapF (-a) = tapF a := by unfold tapF; split <;> split <;> (try split) <;> (try split) <;> omega
def Flm.wt (f : Flm) (R G B : Nat → Int) (l : Nat) (i k : Nat) (ac dn : Int) : Int :=
  mulF (tapF ac * tapF dn * 65536) (if i = k then 65536 else mulF (f.like i k) (nearF l (R i) (G i) (B i) (R k) (G k) (B k)))
theorem wt_same {f : Flm} {R G B : Nat → Int} {l i k : Nat} {ac dn : Int} (h : i = k) : f.wt R G B l i k ac dn = mulF (tapF ac * tapF dn * 65536) 65536 := by unfold Flm.wt; rw [if_pos h]
theorem wt_apart {f : Flm} {R G B : Nat → Int} {l i k : Nat} {ac dn : Int} (h : ¬ i = k) : f.wt R G B l i k ac dn = mulF (tapF ac * tapF dn * 65536) (mulF (f.like i k) (nearF l (R i) (G i) (B i) (R k) (G k) (B k))) := by unfold Flm.wt; rw [if_neg h]
theorem wt_nonneg (f : Flm) (R G B : Nat → Int) {l : Nat} (hl : l ≤ 4) (i k : Nat) (ac dn : Int) : 0 ≤ f.wt R G B l i k ac dn := by
  have := tapF_mul ac dn
  unfold Flm.wt
  refine mulF_nonneg (by omega) ?_
  split
  · omega
  · exact mulF_nonneg (like_nonneg ..) (nearF_nonneg l hl ..)

set_option maxRecDepth 100000 in
set_option maxHeartbeats 4000000 in
theorem weight_any (f : Flm) (R G B : Nat → Int) (l : Nat) (hl : l ≤ 4) (W H W2 H2 : Int) (AL AD AN AB AS AF A2 : Option Addr) (nL cL cD cN nB cB cS nF cF c2 n : Nat) (i k : Nat) (ac dn : Int) (w : World) (hi : i < n) (hk : k < n) (hn : n ≤ 1000000) (ha1 : -2 ≤ ac) (ha2 : ac ≤ 2) (hd1 : -2 ≤ dn) (hd2 : dn ≤ 2)
    (hT : TapsIn w) (hS : CellsI w AS n f.sh) (hD : CellsI w AD n f.d) (hN : CellsH w AN n f.nx f.ny f.nz) (hL : CellsH w A2 n R G B) :
    Calls Tryd.prog 28 #[.agg #[.int .i64 W, .int .i64 H, .slice AL nL cL, .slice AD n cD, .slice AN n cN, .slice AB nB cB, .slice AS n cS, .slice AF nF cF], .agg #[.int .i64 W2, .int .i64 H2, .slice A2 n c2], .int .i64 i, .int .i64 k, .int .i64 ac, .int .i64 dn, .int .i64 l] w fun e w' =>
      e = .returned (.int .i64 (f.wt R G B l i k ac dn)) ∧ Grew w w' := by
  obtain ⟨b2, o2, rfl, cl⟩ := hL (by omega)
  obtain ⟨p0, p1, p2⟩ := cl i hi
  obtain ⟨q0, q1, q2⟩ := cl k hk
  have l2 : b2 < w.heap.size := World.block_lt_of_cell? _ _ p0
  have l21 : b2 < w.heap.size + 1 := by omega
  have l22 : b2 < w.heap.size + 1 + 1 := by omega
  have HS := Lib.hid hS
  have HD := Lib.hid hD
  have HN := Lib.hid hN
  have tm := tapF_mul ac dn
  clear cl hS hD hN hL
  obtain ⟨a, ha, hta, hsa⟩ : ∃ a : Nat, a ≤ 2 ∧ tapF ac = tapF a ∧ (ac = a ∨ (ac = -(a : Int) ∧ 0 < a)) := by
    by_cases h : 0 ≤ ac
    · obtain ⟨a, rfl⟩ := Int.eq_ofNat_of_zero_le h
      exact ⟨a, by omega, rfl, .inl rfl⟩
    · obtain ⟨a, hh⟩ := Int.eq_ofNat_of_zero_le (a := -ac) (by omega)
      obtain rfl : ac = -(a : Int) := by omega
      exact ⟨a, by omega, tapF_neg _, .inr ⟨rfl, by omega⟩⟩
  obtain ⟨d, hd, htd, hsd⟩ : ∃ a : Nat, a ≤ 2 ∧ tapF dn = tapF a ∧ (dn = a ∨ (dn = -(a : Int) ∧ 0 < a)) := by
    by_cases h : 0 ≤ dn
    · obtain ⟨a, rfl⟩ := Int.eq_ofNat_of_zero_le h
      exact ⟨a, by omega, rfl, .inl rfl⟩
    · obtain ⟨a, hh⟩ := Int.eq_ofNat_of_zero_le (a := -dn) (by omega)
      obtain rfl : dn = -(a : Int) := by omega
      exact ⟨a, by omega, tapF_neg _, .inr ⟨rfl, by omega⟩⟩
  have ta := hT a ha
  have td := hT d hd
  have l0 : 0 < w.heap.size := World.block_lt_of_cell? _ _ ta
  have es : i = k → f.wt R G B l i k ac dn = mulF (tapF a * tapF d * 65536) 65536 := fun h => by rw [wt_same h, hta, htd]
  have ea : ¬ i = k → f.wt R G B l i k ac dn = mulF (tapF a * tapF d * 65536) (mulF (f.like i k) (nearF l (R i) (G i) (B i) (R k) (G k) (B k))) := fun h => by rw [wt_apart h, hta, htd]
  rw [hta, htd] at tm
  have ES := Lib.hid es
  have EA := Lib.hid ea
  have ba := tapF_bd a
  have bd := tapF_bd d
  obtain ⟨x, hx⟩ : ∃ x, x = tapF (a : Int) := ⟨_, rfl⟩
  obtain ⟨y, hy⟩ : ∃ y, y = tapF (d : Int) := ⟨_, rfl⟩
  rw [← hx] at ES EA ta ba tm
  rw [← hy] at ES EA td bd tm
  clear es ea hta htd hx hy hT
  rcases hsa with rfl | ⟨rfl, ha0⟩ <;> rcases hsd with rfl | ⟨rfl, hd0⟩
  all_goals
    by_cases hik : i = k
    · have E := Lib.hid (ES.out hik)
      have hne : ((i : Int) != (k : Int)) = false := by simp [hik]
      go_enter Tryd.func28, Tryd.ntmps28
      go_wp2
      refine wp_region_ext_tail 13 (by kernel_rfl) (by kernel_rfl) ?_
      simp only [List.take_succ_cons, List.take_zero, List.drop_succ_cons, List.drop_zero]
      repeat (go_big_quiet_step (fail))
      refine wpQuiet_nil ?_
      rintro _ ⟨x1, rfl⟩
      go_wp2_with (first | (go_at_call 47; refine (of_any _ _ (by omega) (by omega)).mono ?_; rintro e w' ⟨rfl, rfl⟩) | (go_at_call 44; refine (fmul_any _ _ _).mono ?_; rintro e w' ⟨rfl, rfl⟩))
      go_ret
      exact ⟨ret_i E.out.symm, Grew.of (by repeat (first | assumption | exact gr_refl _ | refine gr_alloc ?_ _ | refine gr_drew ?_ | refine gr_drewN ?_ _ | refine gr_ext ?_ _ | (refine gr_set ?_ ?_ _; rotate_left; (simp <;> omega))))⟩
    · have E := Lib.hid (EA.out hik)
      have hne : ((i : Int) != (k : Int)) = true := by simp; omega
      go_enter Tryd.func28, Tryd.ntmps28
      go_wp2
      refine wp_region_ext_tail 13 (by kernel_rfl) (by kernel_rfl) ?_
      simp only [List.take_succ_cons, List.take_zero, List.drop_succ_cons, List.drop_zero]
      repeat (go_big_quiet_step (fail))
      refine wpQuiet_nil ?_
      rintro _ ⟨x1, rfl⟩
      have s1 := x1.size_val
      (try simp at s1)
      have e1 : w.heap.size < x1.val.heap.size := by omega
      have e2 : w.heap.size + 1 < x1.val.heap.size := by omega
      have e3 : b2 < x1.val.heap.size := by omega
      go_wp2
      refine wp_region_ext_tail 17 (by kernel_rfl) (by kernel_rfl) ?_
      simp only [List.take_succ_cons, List.take_zero, List.drop_succ_cons, List.drop_zero]
      repeat (go_big_quiet_step ((first | (go_at_call 45; exact Calls.grew _ (like_any f _ _ _ _ _ _ _ _ _ _ _ _ _ _ _ _ _ n i k _ hi hk hn (HS.out.below ((by repeat (first | assumption | exact gr_refl _ | refine gr_alloc ?_ _ | refine gr_drew ?_ | refine gr_drewN ?_ _ | refine gr_ext ?_ _ | (refine gr_set ?_ ?_ _; rotate_left; (simp <;> omega)))))) (HD.out.below ((by repeat (first | assumption | exact gr_refl _ | refine gr_alloc ?_ _ | refine gr_drew ?_ | refine gr_drewN ?_ _ | refine gr_ext ?_ _ | (refine gr_set ?_ ?_ _; rotate_left; (simp <;> omega)))))) (HN.out.below ((by repeat (first | assumption | exact gr_refl _ | refine gr_alloc ?_ _ | refine gr_drew ?_ | refine gr_drewN ?_ _ | refine gr_ext ?_ _ | (refine gr_set ?_ ?_ _; rotate_left; (simp <;> omega)))))))) | (go_at_call 46; exact Calls.grew _ (near_any l hl _ _ _ _ _ _ _)) | (go_at_call 44; exact Calls.ext_same _ (fmul_any _ _ _)))))
      refine wpQuiet_nil ?_
      rintro _ ⟨x2, rfl⟩
      go_wp2_with (first | (go_at_call 47; refine (of_any _ _ (by omega) (by omega)).mono ?_; rintro e w' ⟨rfl, rfl⟩) | (go_at_call 44; refine (fmul_any _ _ _).mono ?_; rintro e w' ⟨rfl, rfl⟩))
      go_ret
      exact ⟨ret_i E.out.symm, Grew.of (by repeat (first | assumption | exact gr_refl _ | refine gr_alloc ?_ _ | refine gr_drew ?_ | refine gr_drewN ?_ _ | refine gr_ext ?_ _ | (refine gr_set ?_ ?_ _; rotate_left; (simp <;> omega))))⟩
end Go.Proofs.YtneegcnidoopmaaDoor
