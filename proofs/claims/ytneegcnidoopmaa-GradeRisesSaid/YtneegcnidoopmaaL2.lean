/- GradeRises: for every curve, places, light and picture, the law answers true and leaves its input as it was. No conditions. -/
import Derived.Test.YtneegcnidoopmaaE
import Derived.Test.YtneegcnidoopmaaI
import Derived.Test.YtneegcnidoopmaaM
import Derived.Test.YtneegcnidoopmaaQ
import Derived.Test.YtneegcnidoopmaaT
import Derived.Test.YtneegcnidoopmaaS3
import Derived.Test.YtneegcnidoopmaaLr
import Derived.Test.YtneegcnidoopmaaO
import Derived.Deep.DeepCutAuto
import Derived.Deep.CutBlock
import Derived.Deep.LoopGhost
namespace Go.Proofs.Ytneegcnidoopmaa
open Go.RowKit

set_option maxRecDepth 100000 in
set_option maxHeartbeats 4000000 in
theorem rises_law (A : Option Addr) (n cap : Nat) (X Y : Nat → Int) (a b : Int) (h0 h1 h2 W H : Int) (A2 : Option Addr) (m cap2 : Nat) (R G B : Nat → Int) (w : World) (hn : n ≤ 9223372036854775807) (hm : m ≤ 9223372036854775807)
    (hc : Cells2 w A n X Y) (hd : Cells3 w A2 m R G B) (hB : Bytes3 R G B m) (hnil : A2 = none → m = 0 ∧ cap2 = 0) :
    Calls Try.prog 4 #[.slice A n cap, .int .i64 a, .int .i64 b, .agg #[.int .i64 h0, .int .i64 h1, .int .i64 h2], .agg #[.int .i64 W, .int .i64 H, .slice A2 m cap2]] w fun e w' => e = .returned (.bool true) ∧ Grew w w' := by
  have HC := Lib.hid hc
  have HD := Lib.hid hd
  have HB := Lib.hid hB
  have HN := Lib.hid hnil
  clear hc hd hB hnil
  by_cases h40 : 40 < n
  ·
    go_enter Try.func4, Try.ntmps4
    go_wp2_with (go_at_call 10; refine (awake39_any _).mono ?_; rintro e w' ⟨rfl, x0, rfl⟩)
    go_ret
    exact ⟨rfl, Grew.of (by repeat (first | assumption | exact gr_refl _ | refine gr_alloc ?_ _ | refine gr_drew ?_ | refine gr_drewN ?_ _ | refine gr_ext ?_ _ | (refine gr_set ?_ ?_ _; rotate_left; (simp <;> omega))))⟩
  have d40 : decide ((40 : Int) < (n : Int)) = false := decide_eq_false (by omega)
  by_cases h50 : 5000 < m
  ·
    go_enter Try.func4, Try.ntmps4
    go_wp2_with (go_at_call 10; refine (awake39_any _).mono ?_; rintro e w' ⟨rfl, x0, rfl⟩)
    go_ret
    exact ⟨rfl, Grew.of (by repeat (first | assumption | exact gr_refl _ | refine gr_alloc ?_ _ | refine gr_drew ?_ | refine gr_drewN ?_ _ | refine gr_ext ?_ _ | (refine gr_set ?_ ?_ _; rotate_left; (simp <;> omega))))⟩
  have d50 : decide ((5000 : Int) < (m : Int)) = false := decide_eq_false (by omega)
  go_enter Try.func4, Try.ntmps4
  go_wp2_with fail
  refine (to_any A n cap X Y _ (by omega) (HC.out.below (by repeat (first | assumption | exact gr_refl _ | refine gr_alloc ?_ _ | refine gr_drew ?_ | refine gr_drewN ?_ _ | refine gr_ext ?_ _ | (refine gr_set ?_ ?_ _; rotate_left; (simp <;> omega)))))).mono ?_
  rintro e w1 ⟨v, rfl, ho, hb⟩
  obtain ⟨A', cap', rfl, hcap, hc'⟩ := ho.pins
  have bh : Blk w1 w.heap.size #[.int .i64 h0, .int .i64 h1, .int .i64 h2] 33 := Blk.below ((by repeat (first | assumption | (refine Blk.at_ _ _ ?_; simp; done) | refine Blk.alloc ?_ _ | refine Blk.drew ?_ | refine Blk.ext ?_ _ | exact Blk.set (by assumption) _ _ | (refine Blk.other ?_ ?_ _; rotate_left; (simp <;> omega))))) hb
  have bp : Blk w1 (w.heap.size + 1) #[.int .i64 W, .int .i64 H, .slice A2 m cap2] 36 := Blk.below ((by repeat (first | assumption | (refine Blk.at_ _ _ ?_; simp; done) | refine Blk.alloc ?_ _ | refine Blk.drew ?_ | refine Blk.ext ?_ _ | exact Blk.set (by assumption) _ _ | (refine Blk.other ?_ ?_ _; rotate_left; (simp <;> omega))))) hb
  have HB1 : Hid (Below w.heap.size w w1) := gr_below ((by repeat (first | assumption | exact gr_refl _ | refine gr_alloc ?_ _ | refine gr_drew ?_ | refine gr_drewN ?_ _ | refine gr_ext ?_ _ | (refine gr_set ?_ ?_ _; rotate_left; (simp <;> omega))))) hb
  have D1 := Lib.hid hc'
  have BH := Lib.hid bh
  have BP := Lib.hid bp
  clear ho hb hc' bh bp
  go_upto_region 4 with fail
  go_cut [45] (fun s45 wx => s45 = .bool false ∧ Below w.heap.size w wx ∧ Blk wx w.heap.size #[.int .i64 h0, .int .i64 h1, .int .i64 h2] 33 ∧ Blk wx (w.heap.size + 1) #[.int .i64 W, .int .i64 H, .slice A2 m cap2] 36)
  case first =>
    cases hr : risesB X Y n with
    | false =>
      have HR := Lib.hid hr
      clear hr
      go_wp2_with fail
      refine (rises_any A' n cap' X Y _ (by omega) D1.out).mono ?_
      rintro e w' ⟨rfl, x1, rfl⟩
      rw [HR.out]
      go_wp2
      go_meet
      exact ⟨rfl, by have := HB1.out; exact (by repeat (first | assumption | exact gr_refl _ | refine gr_alloc ?_ _ | refine gr_drew ?_ | refine gr_drewN ?_ _ | refine gr_ext ?_ _ | (refine gr_set ?_ ?_ _; rotate_left; (simp <;> omega)))), BH.out.ext x1, BP.out.ext x1⟩
    | true =>
      have HR := Lib.hid hr
      rcases Int.lt_trichotomy a b with hab | hab | hab
      · have hlt : decide (curveAt X Y n b < curveAt X Y n a) = false := decide_eq_false (by have := rises_mono hr (X := X) (Y := Y) (x := a) (y := b) (by omega); omega)
        have HLT := Lib.hid hlt
        clear hr hlt
        go_wp2_with fail
        refine (rises_any A' n cap' X Y _ (by omega) D1.out).mono ?_
        rintro e w' ⟨rfl, x1, rfl⟩
        rw [HR.out]
        have D2 := Lib.hid (D1.out.ext x1)
        go_wp2_with fail
        refine (at_any A' n cap' X Y a _ (by omega) hcap D2.out).mono ?_
        rintro e w' ⟨rfl, x2, rfl⟩
        have D3 := Lib.hid (D2.out.ext x2)
        go_wp2_with fail
        refine (at_any A' n cap' X Y b _ (by omega) hcap D3.out).mono ?_
        rintro e w' ⟨rfl, x3, rfl⟩
        have hlt := HLT.out
        go_wp2
        go_meet
        exact ⟨rfl, by have := HB1.out; exact (by repeat (first | assumption | exact gr_refl _ | refine gr_alloc ?_ _ | refine gr_drew ?_ | refine gr_drewN ?_ _ | refine gr_ext ?_ _ | (refine gr_set ?_ ?_ _; rotate_left; (simp <;> omega)))), ((BH.out.ext x1).ext x2).ext x3, ((BP.out.ext x1).ext x2).ext x3⟩
      · subst hab
        have hlt : decide (curveAt X Y n a < curveAt X Y n a) = false := decide_eq_false (by have := rises_mono hr (X := X) (Y := Y) (x := a) (y := a) (by omega); omega)
        have HLT := Lib.hid hlt
        clear hr hlt
        go_wp2_with fail
        refine (rises_any A' n cap' X Y _ (by omega) D1.out).mono ?_
        rintro e w' ⟨rfl, x1, rfl⟩
        rw [HR.out]
        have D2 := Lib.hid (D1.out.ext x1)
        go_wp2_with fail
        refine (at_any A' n cap' X Y a _ (by omega) hcap D2.out).mono ?_
        rintro e w' ⟨rfl, x2, rfl⟩
        have D3 := Lib.hid (D2.out.ext x2)
        go_wp2_with fail
        refine (at_any A' n cap' X Y a _ (by omega) hcap D3.out).mono ?_
        rintro e w' ⟨rfl, x3, rfl⟩
        have hlt := HLT.out
        go_wp2
        go_meet
        exact ⟨rfl, by have := HB1.out; exact (by repeat (first | assumption | exact gr_refl _ | refine gr_alloc ?_ _ | refine gr_drew ?_ | refine gr_drewN ?_ _ | refine gr_ext ?_ _ | (refine gr_set ?_ ?_ _; rotate_left; (simp <;> omega)))), ((BH.out.ext x1).ext x2).ext x3, ((BP.out.ext x1).ext x2).ext x3⟩
      · have hlt : decide (curveAt X Y n a < curveAt X Y n b) = false := decide_eq_false (by have := rises_mono hr (X := X) (Y := Y) (x := b) (y := a) (by omega); omega)
        have HLT := Lib.hid hlt
        clear hr hlt
        go_wp2_with fail
        refine (rises_any A' n cap' X Y _ (by omega) D1.out).mono ?_
        rintro e w' ⟨rfl, x1, rfl⟩
        rw [HR.out]
        have D2 := Lib.hid (D1.out.ext x1)
        go_wp2_with fail
        refine (at_any A' n cap' X Y b _ (by omega) hcap D2.out).mono ?_
        rintro e w' ⟨rfl, x2, rfl⟩
        have D3 := Lib.hid (D2.out.ext x2)
        go_wp2_with fail
        refine (at_any A' n cap' X Y a _ (by omega) hcap D3.out).mono ?_
        rintro e w' ⟨rfl, x3, rfl⟩
        have hlt := HLT.out
        go_wp2
        go_meet
        exact ⟨rfl, by have := HB1.out; exact (by repeat (first | assumption | exact gr_refl _ | refine gr_alloc ?_ _ | refine gr_drew ?_ | refine gr_drewN ?_ _ | refine gr_ext ?_ _ | (refine gr_set ?_ ?_ _; rotate_left; (simp <;> omega)))), ((BH.out.ext x1).ext x2).ext x3, ((BP.out.ext x1).ext x2).ext x3⟩
  case rest =>
    obtain ⟨rfl, hb1, bh, bp⟩ := hcut
    go_wp2
    go_loopw [46] (fun i wr => ∃ k : Nat, k ≤ 3 ∧ i = .int .i64 k ∧ Below w.heap.size w wr ∧ Blk wr w.heap.size #[.int .i64 h0, .int .i64 h1, .int .i64 h2] 33 ∧ Blk wr (w.heap.size + 1) #[.int .i64 W, .int .i64 H, .slice A2 m cap2] 36) (fun i _ => 3 - (intOf i).toNat)
    case atStart => exact ⟨0, by omega, rfl, hb1, bh, bp⟩
    case round =>
      obtain ⟨k, hk, rfl, hb, bh, bp⟩ := hrel
      have l1 := bh.lt
      have l2 := bp.lt
      have HBH := Lib.hid bh
      have HBP := Lib.hid bp
      clear bh bp hcap
      have hk' : k = 0 ∨ k = 1 ∨ k = 2 ∨ k = 3 := by omega
      rcases hk' with rfl | rfl | rfl | rfl
      ·
        have ch : wr.cell? ⟨w.heap.size, 0, none⟩ = some (.int .i64 h0) := by rw [HBH.out.cell]; rfl
        have e0 := same_at (X := sameX) rfl rfl h0
        by_cases c1 : h0 ≤ -16777216
        · have e1 : curveAt sameX sameX 2 h0 = -16777216 := by omega
          have E1 := Lib.hid e1
          clear e0 e1
          go_wp2
          go_region_held3 (fun w' => w'.cell? ⟨w.heap.size, 0, none⟩ = some (.int .i64 h0)) (first | go_keep | exact cell_later x2.below (by assumption) | exact cell_later x1.below (by assumption)) (first | (go_at_call 18; refine (same_any _).mono ?_; rintro e w' ⟨rfl, hcs, x1, rfl⟩) | (go_at_call 14; refine (at_any _ 2 2 sameX sameX h0 _ (by omega) (by omega) (by first | exact hcs)).mono ?_; rintro e w' ⟨rfl, x2, rfl⟩; rw [E1.out]))
          go_wp2
          go_roundw
          case rel => exact ⟨1, by omega, by go_num, (by repeat (first | assumption | exact gr_refl _ | refine gr_alloc ?_ _ | refine gr_drew ?_ | refine gr_drewN ?_ _ | refine gr_ext ?_ _ | (refine gr_set ?_ ?_ _; rotate_left; (simp <;> omega)))), by have := HBH.out; exact (by repeat (first | assumption | (refine Blk.at_ _ _ ?_; simp; done) | refine Blk.alloc ?_ _ | refine Blk.drew ?_ | refine Blk.ext ?_ _ | exact Blk.set (by assumption) _ _ | (refine Blk.other ?_ ?_ _; rotate_left; (simp <;> omega)))), by have := HBP.out; exact (by repeat (first | assumption | (refine Blk.at_ _ _ ?_; simp; done) | refine Blk.alloc ?_ _ | refine Blk.drew ?_ | refine Blk.ext ?_ _ | exact Blk.set (by assumption) _ _ | (refine Blk.other ?_ ?_ _; rotate_left; (simp <;> omega))))⟩
          case measure => simp [intOf]
        by_cases c2 : 16777216 < h0
        · have e1 : curveAt sameX sameX 2 h0 = 16777216 := by omega
          have E1 := Lib.hid e1
          clear e0 e1
          go_wp2
          go_region_held3 (fun w' => w'.cell? ⟨w.heap.size, 0, none⟩ = some (.int .i64 h0)) (first | go_keep | exact cell_later x2.below (by assumption) | exact cell_later x1.below (by assumption)) (first | (go_at_call 18; refine (same_any _).mono ?_; rintro e w' ⟨rfl, hcs, x1, rfl⟩) | (go_at_call 14; refine (at_any _ 2 2 sameX sameX h0 _ (by omega) (by omega) (by first | exact hcs)).mono ?_; rintro e w' ⟨rfl, x2, rfl⟩; rw [E1.out]))
          go_wp2
          go_roundw
          case rel => exact ⟨1, by omega, by go_num, (by repeat (first | assumption | exact gr_refl _ | refine gr_alloc ?_ _ | refine gr_drew ?_ | refine gr_drewN ?_ _ | refine gr_ext ?_ _ | (refine gr_set ?_ ?_ _; rotate_left; (simp <;> omega)))), by have := HBH.out; exact (by repeat (first | assumption | (refine Blk.at_ _ _ ?_; simp; done) | refine Blk.alloc ?_ _ | refine Blk.drew ?_ | refine Blk.ext ?_ _ | exact Blk.set (by assumption) _ _ | (refine Blk.other ?_ ?_ _; rotate_left; (simp <;> omega)))), by have := HBP.out; exact (by repeat (first | assumption | (refine Blk.at_ _ _ ?_; simp; done) | refine Blk.alloc ?_ _ | refine Blk.drew ?_ | refine Blk.ext ?_ _ | exact Blk.set (by assumption) _ _ | (refine Blk.other ?_ ?_ _; rotate_left; (simp <;> omega))))⟩
          case measure => simp [intOf]
        · have e1 : curveAt sameX sameX 2 h0 = h0 := by omega
          have E1 := Lib.hid e1
          clear e0 e1
          go_wp2
          go_region_held3 (fun w' => w'.cell? ⟨w.heap.size, 0, none⟩ = some (.int .i64 h0)) (first | go_keep | exact cell_later x2.below (by assumption) | exact cell_later x1.below (by assumption)) (first | (go_at_call 18; refine (same_any _).mono ?_; rintro e w' ⟨rfl, hcs, x1, rfl⟩) | (go_at_call 14; refine (at_any _ 2 2 sameX sameX h0 _ (by omega) (by omega) (by first | exact hcs)).mono ?_; rintro e w' ⟨rfl, x2, rfl⟩; rw [E1.out]))
          go_wp2
          go_roundw
          case rel => exact ⟨1, by omega, by go_num, (by repeat (first | assumption | exact gr_refl _ | refine gr_alloc ?_ _ | refine gr_drew ?_ | refine gr_drewN ?_ _ | refine gr_ext ?_ _ | (refine gr_set ?_ ?_ _; rotate_left; (simp <;> omega)))), by have := HBH.out; exact (by repeat (first | assumption | (refine Blk.at_ _ _ ?_; simp; done) | refine Blk.alloc ?_ _ | refine Blk.drew ?_ | refine Blk.ext ?_ _ | exact Blk.set (by assumption) _ _ | (refine Blk.other ?_ ?_ _; rotate_left; (simp <;> omega)))), by have := HBP.out; exact (by repeat (first | assumption | (refine Blk.at_ _ _ ?_; simp; done) | refine Blk.alloc ?_ _ | refine Blk.drew ?_ | refine Blk.ext ?_ _ | exact Blk.set (by assumption) _ _ | (refine Blk.other ?_ ?_ _; rotate_left; (simp <;> omega))))⟩
          case measure => simp [intOf]
      ·
        have ch : wr.cell? ⟨w.heap.size, 1, none⟩ = some (.int .i64 h1) := by rw [HBH.out.cell]; rfl
        have e0 := same_at (X := sameX) rfl rfl h1
        by_cases c1 : h1 ≤ -16777216
        · have e1 : curveAt sameX sameX 2 h1 = -16777216 := by omega
          have E1 := Lib.hid e1
          clear e0 e1
          go_wp2
          go_region_held3 (fun w' => w'.cell? ⟨w.heap.size, 1, none⟩ = some (.int .i64 h1)) (first | go_keep | exact cell_later x2.below (by assumption) | exact cell_later x1.below (by assumption)) (first | (go_at_call 18; refine (same_any _).mono ?_; rintro e w' ⟨rfl, hcs, x1, rfl⟩) | (go_at_call 14; refine (at_any _ 2 2 sameX sameX h1 _ (by omega) (by omega) (by first | exact hcs)).mono ?_; rintro e w' ⟨rfl, x2, rfl⟩; rw [E1.out]))
          go_wp2
          go_roundw
          case rel => exact ⟨2, by omega, by go_num, (by repeat (first | assumption | exact gr_refl _ | refine gr_alloc ?_ _ | refine gr_drew ?_ | refine gr_drewN ?_ _ | refine gr_ext ?_ _ | (refine gr_set ?_ ?_ _; rotate_left; (simp <;> omega)))), by have := HBH.out; exact (by repeat (first | assumption | (refine Blk.at_ _ _ ?_; simp; done) | refine Blk.alloc ?_ _ | refine Blk.drew ?_ | refine Blk.ext ?_ _ | exact Blk.set (by assumption) _ _ | (refine Blk.other ?_ ?_ _; rotate_left; (simp <;> omega)))), by have := HBP.out; exact (by repeat (first | assumption | (refine Blk.at_ _ _ ?_; simp; done) | refine Blk.alloc ?_ _ | refine Blk.drew ?_ | refine Blk.ext ?_ _ | exact Blk.set (by assumption) _ _ | (refine Blk.other ?_ ?_ _; rotate_left; (simp <;> omega))))⟩
          case measure => simp [intOf]
        by_cases c2 : 16777216 < h1
        · have e1 : curveAt sameX sameX 2 h1 = 16777216 := by omega
          have E1 := Lib.hid e1
          clear e0 e1
          go_wp2
          go_region_held3 (fun w' => w'.cell? ⟨w.heap.size, 1, none⟩ = some (.int .i64 h1)) (first | go_keep | exact cell_later x2.below (by assumption) | exact cell_later x1.below (by assumption)) (first | (go_at_call 18; refine (same_any _).mono ?_; rintro e w' ⟨rfl, hcs, x1, rfl⟩) | (go_at_call 14; refine (at_any _ 2 2 sameX sameX h1 _ (by omega) (by omega) (by first | exact hcs)).mono ?_; rintro e w' ⟨rfl, x2, rfl⟩; rw [E1.out]))
          go_wp2
          go_roundw
          case rel => exact ⟨2, by omega, by go_num, (by repeat (first | assumption | exact gr_refl _ | refine gr_alloc ?_ _ | refine gr_drew ?_ | refine gr_drewN ?_ _ | refine gr_ext ?_ _ | (refine gr_set ?_ ?_ _; rotate_left; (simp <;> omega)))), by have := HBH.out; exact (by repeat (first | assumption | (refine Blk.at_ _ _ ?_; simp; done) | refine Blk.alloc ?_ _ | refine Blk.drew ?_ | refine Blk.ext ?_ _ | exact Blk.set (by assumption) _ _ | (refine Blk.other ?_ ?_ _; rotate_left; (simp <;> omega)))), by have := HBP.out; exact (by repeat (first | assumption | (refine Blk.at_ _ _ ?_; simp; done) | refine Blk.alloc ?_ _ | refine Blk.drew ?_ | refine Blk.ext ?_ _ | exact Blk.set (by assumption) _ _ | (refine Blk.other ?_ ?_ _; rotate_left; (simp <;> omega))))⟩
          case measure => simp [intOf]
        · have e1 : curveAt sameX sameX 2 h1 = h1 := by omega
          have E1 := Lib.hid e1
          clear e0 e1
          go_wp2
          go_region_held3 (fun w' => w'.cell? ⟨w.heap.size, 1, none⟩ = some (.int .i64 h1)) (first | go_keep | exact cell_later x2.below (by assumption) | exact cell_later x1.below (by assumption)) (first | (go_at_call 18; refine (same_any _).mono ?_; rintro e w' ⟨rfl, hcs, x1, rfl⟩) | (go_at_call 14; refine (at_any _ 2 2 sameX sameX h1 _ (by omega) (by omega) (by first | exact hcs)).mono ?_; rintro e w' ⟨rfl, x2, rfl⟩; rw [E1.out]))
          go_wp2
          go_roundw
          case rel => exact ⟨2, by omega, by go_num, (by repeat (first | assumption | exact gr_refl _ | refine gr_alloc ?_ _ | refine gr_drew ?_ | refine gr_drewN ?_ _ | refine gr_ext ?_ _ | (refine gr_set ?_ ?_ _; rotate_left; (simp <;> omega)))), by have := HBH.out; exact (by repeat (first | assumption | (refine Blk.at_ _ _ ?_; simp; done) | refine Blk.alloc ?_ _ | refine Blk.drew ?_ | refine Blk.ext ?_ _ | exact Blk.set (by assumption) _ _ | (refine Blk.other ?_ ?_ _; rotate_left; (simp <;> omega)))), by have := HBP.out; exact (by repeat (first | assumption | (refine Blk.at_ _ _ ?_; simp; done) | refine Blk.alloc ?_ _ | refine Blk.drew ?_ | refine Blk.ext ?_ _ | exact Blk.set (by assumption) _ _ | (refine Blk.other ?_ ?_ _; rotate_left; (simp <;> omega))))⟩
          case measure => simp [intOf]
      ·
        have ch : wr.cell? ⟨w.heap.size, 2, none⟩ = some (.int .i64 h2) := by rw [HBH.out.cell]; rfl
        have e0 := same_at (X := sameX) rfl rfl h2
        by_cases c1 : h2 ≤ -16777216
        · have e1 : curveAt sameX sameX 2 h2 = -16777216 := by omega
          have E1 := Lib.hid e1
          clear e0 e1
          go_wp2
          go_region_held3 (fun w' => w'.cell? ⟨w.heap.size, 2, none⟩ = some (.int .i64 h2)) (first | go_keep | exact cell_later x2.below (by assumption) | exact cell_later x1.below (by assumption)) (first | (go_at_call 18; refine (same_any _).mono ?_; rintro e w' ⟨rfl, hcs, x1, rfl⟩) | (go_at_call 14; refine (at_any _ 2 2 sameX sameX h2 _ (by omega) (by omega) (by first | exact hcs)).mono ?_; rintro e w' ⟨rfl, x2, rfl⟩; rw [E1.out]))
          go_wp2
          go_roundw
          case rel => exact ⟨3, by omega, by go_num, (by repeat (first | assumption | exact gr_refl _ | refine gr_alloc ?_ _ | refine gr_drew ?_ | refine gr_drewN ?_ _ | refine gr_ext ?_ _ | (refine gr_set ?_ ?_ _; rotate_left; (simp <;> omega)))), by have := HBH.out; exact (by repeat (first | assumption | (refine Blk.at_ _ _ ?_; simp; done) | refine Blk.alloc ?_ _ | refine Blk.drew ?_ | refine Blk.ext ?_ _ | exact Blk.set (by assumption) _ _ | (refine Blk.other ?_ ?_ _; rotate_left; (simp <;> omega)))), by have := HBP.out; exact (by repeat (first | assumption | (refine Blk.at_ _ _ ?_; simp; done) | refine Blk.alloc ?_ _ | refine Blk.drew ?_ | refine Blk.ext ?_ _ | exact Blk.set (by assumption) _ _ | (refine Blk.other ?_ ?_ _; rotate_left; (simp <;> omega))))⟩
          case measure => simp [intOf]
        by_cases c2 : 16777216 < h2
        · have e1 : curveAt sameX sameX 2 h2 = 16777216 := by omega
          have E1 := Lib.hid e1
          clear e0 e1
          go_wp2
          go_region_held3 (fun w' => w'.cell? ⟨w.heap.size, 2, none⟩ = some (.int .i64 h2)) (first | go_keep | exact cell_later x2.below (by assumption) | exact cell_later x1.below (by assumption)) (first | (go_at_call 18; refine (same_any _).mono ?_; rintro e w' ⟨rfl, hcs, x1, rfl⟩) | (go_at_call 14; refine (at_any _ 2 2 sameX sameX h2 _ (by omega) (by omega) (by first | exact hcs)).mono ?_; rintro e w' ⟨rfl, x2, rfl⟩; rw [E1.out]))
          go_wp2
          go_roundw
          case rel => exact ⟨3, by omega, by go_num, (by repeat (first | assumption | exact gr_refl _ | refine gr_alloc ?_ _ | refine gr_drew ?_ | refine gr_drewN ?_ _ | refine gr_ext ?_ _ | (refine gr_set ?_ ?_ _; rotate_left; (simp <;> omega)))), by have := HBH.out; exact (by repeat (first | assumption | (refine Blk.at_ _ _ ?_; simp; done) | refine Blk.alloc ?_ _ | refine Blk.drew ?_ | refine Blk.ext ?_ _ | exact Blk.set (by assumption) _ _ | (refine Blk.other ?_ ?_ _; rotate_left; (simp <;> omega)))), by have := HBP.out; exact (by repeat (first | assumption | (refine Blk.at_ _ _ ?_; simp; done) | refine Blk.alloc ?_ _ | refine Blk.drew ?_ | refine Blk.ext ?_ _ | exact Blk.set (by assumption) _ _ | (refine Blk.other ?_ ?_ _; rotate_left; (simp <;> omega))))⟩
          case measure => simp [intOf]
        · have e1 : curveAt sameX sameX 2 h2 = h2 := by omega
          have E1 := Lib.hid e1
          clear e0 e1
          go_wp2
          go_region_held3 (fun w' => w'.cell? ⟨w.heap.size, 2, none⟩ = some (.int .i64 h2)) (first | go_keep | exact cell_later x2.below (by assumption) | exact cell_later x1.below (by assumption)) (first | (go_at_call 18; refine (same_any _).mono ?_; rintro e w' ⟨rfl, hcs, x1, rfl⟩) | (go_at_call 14; refine (at_any _ 2 2 sameX sameX h2 _ (by omega) (by omega) (by first | exact hcs)).mono ?_; rintro e w' ⟨rfl, x2, rfl⟩; rw [E1.out]))
          go_wp2
          go_roundw
          case rel => exact ⟨3, by omega, by go_num, (by repeat (first | assumption | exact gr_refl _ | refine gr_alloc ?_ _ | refine gr_drew ?_ | refine gr_drewN ?_ _ | refine gr_ext ?_ _ | (refine gr_set ?_ ?_ _; rotate_left; (simp <;> omega)))), by have := HBH.out; exact (by repeat (first | assumption | (refine Blk.at_ _ _ ?_; simp; done) | refine Blk.alloc ?_ _ | refine Blk.drew ?_ | refine Blk.ext ?_ _ | exact Blk.set (by assumption) _ _ | (refine Blk.other ?_ ?_ _; rotate_left; (simp <;> omega)))), by have := HBP.out; exact (by repeat (first | assumption | (refine Blk.at_ _ _ ?_; simp; done) | refine Blk.alloc ?_ _ | refine Blk.drew ?_ | refine Blk.ext ?_ _ | exact Blk.set (by assumption) _ _ | (refine Blk.other ?_ ?_ _; rotate_left; (simp <;> omega))))⟩
          case measure => simp [intOf]
      ·
        have z : Try.zeroCells39 = tab (fun _ => 0) := by kernel_rfl
        have Z := Lib.hid z
        clear z
        go_wp2_with fail
        refine (negative_any _).mono ?_
        rintro e w' ⟨rfl, x1, rfl⟩
        have hx1 := x1.size_val
        go_wp2_with (refine wpList_store_blk (w0 := w) rfl 39 _ _ rfl x1.val.heap.size _ rfl rfl 39 _ (Blk.at_ _ _ rfl) (by kernel_rfl) (by kernel_rfl) (by kernel_rfl) ((by repeat (first | assumption | exact gr_refl _ | refine gr_alloc ?_ _ | refine gr_drew ?_ | refine gr_drewN ?_ _ | refine gr_ext ?_ _ | (refine gr_set ?_ ?_ _; rotate_left; (simp <;> omega))))) ?_ ?_)
        · omega
        intro w1 hbl hb1 hg1
        have hp1 : Blk w1 (w.heap.size + 1) #[.int .i64 W, .int .i64 H, .slice A2 m cap2] 36 := ((HBP.out.ext x1).alloc _).grown hg1 (by simp; omega)
        have e0 : w1.cell? ⟨x1.val.heap.size, 0, none⟩ = some (.int .u8 255) := by rw [hbl.cell, tab_get _ (by omega)]; rfl
        have l3 := hbl.lt
        have HBL := Lib.hid hbl
        have HP1 := Lib.hid hp1
        have HB1 := Lib.hid hb1
        have lp1 := hp1.lt
        have cp := hp1.cell
        clear hb1 hp1 hbl hg1
        have hth : ∀ wz, Calls Try.prog 20 #[.agg (tab fun n => 255 - (n : Int)), .agg (tab fun n => 255 - (n : Int))] wz fun e w' => e = .returned (.agg (tab (fun n => 255 - ((255 - (n : Int)).toNat : Int)))) ∧ Grew wz w' := fun wz => then_any (fun n => 255 - (n : Int)) (fun n => 255 - (n : Int)) (fun i hi => ⟨by omega, by omega⟩) wz
        have HTH := Lib.hid hth
        clear hth
        cases hr : picB W H m with
        | false =>
          have HR := Lib.hid hr
          clear hr
          go_wp2_with (refine wpList_load_row_g (by rfl) 39 _ rfl x1.val.heap.size rfl 39 _ (0, 0) _ HBL.out.heap Try.underlying39 rfl (by kernel_rfl) ?_)
          refine (HTH.out _).mono ?_
          rintro e w' ⟨rfl, x2, rfl⟩
          go_wp2_with (refine wpList_index_row (by rfl) 39 _ _ rfl _ rfl _ 7 rfl 5 256 (.int .u8 7) _ Try.underlying39 (by omega) Try.underlying5 rfl (by kernel_rfl) (by rw [tab_get _ (by omega)]; rfl) ?_)
          refine (rpic_right_any _ _ _ _ _ _).mono ?_
          rintro e w' ⟨rfl, x3, rfl⟩
          rw [HR.out]
          have kk : Kept w x1.val.heap.size (fun n => 255 - (n : Int)) 39 (w.heap.size + 1) (.int .i64 W) (.int .i64 H) (.slice A2 m cap2) 36 x3.val := ⟨by have := HB1.out; exact (by repeat (first | assumption | exact gr_refl _ | refine gr_alloc ?_ _ | refine gr_drew ?_ | refine gr_drewN ?_ _ | refine gr_ext ?_ _ | (refine gr_set ?_ ?_ _; rotate_left; (simp <;> omega)))), (HBL.out.ext x2).ext x3, (HP1.out.ext x2).ext x3⟩
          have KK := Lib.hid kk
          have e3 : x3.val.cell? ⟨x1.val.heap.size, 0, none⟩ = some (.int .u8 255) := by rw [kk.tab.cell, tab_get _ (by omega)]; rfl
          have l5 := kk.tab.lt
          clear kk
          go_wp2_with (refine wpList_load_row_g (by rfl) 39 _ rfl x1.val.heap.size rfl 39 _ (0, 0) _ KK.out.tab.heap Try.underlying39 rfl (by kernel_rfl) ?_)
          refine (HTH.out _).mono ?_
          rintro e w' ⟨rfl, x4, rfl⟩
          go_wp2_with (refine wpList_index_row (by rfl) 39 _ _ rfl _ rfl _ 7 rfl 5 256 (.int .u8 7) _ Try.underlying39 (by omega) Try.underlying5 rfl (by kernel_rfl) (by rw [tab_get _ (by omega)]; rfl) ?_)
          refine (awake39_any _).mono ?_
          rintro e w' ⟨rfl, x5, rfl⟩
          have k4 := KK.out.bel
          go_wp2
          go_ret
          exact ⟨rfl, Grew.of (by repeat (first | assumption | exact gr_refl _ | refine gr_alloc ?_ _ | refine gr_drew ?_ | refine gr_drewN ?_ _ | refine gr_ext ?_ _ | (refine gr_set ?_ ?_ _; rotate_left; (simp <;> omega))))⟩
        | true =>
          have HR := Lib.hid hr
          clear hr
          go_wp2_with (refine wpList_load_row_g (by rfl) 39 _ rfl x1.val.heap.size rfl 39 _ (0, 0) _ HBL.out.heap Try.underlying39 rfl (by kernel_rfl) ?_)
          refine (HTH.out _).mono ?_
          rintro e w' ⟨rfl, x2, rfl⟩
          go_wp2_with (refine wpList_index_row (by rfl) 39 _ _ rfl _ rfl _ 7 rfl 5 256 (.int .u8 7) _ Try.underlying39 (by omega) Try.underlying5 rfl (by kernel_rfl) (by rw [tab_get _ (by omega)]; rfl) ?_)
          refine (rpic_right_any _ _ _ _ _ _).mono ?_
          rintro e w' ⟨rfl, x3, rfl⟩
          rw [HR.out]
          have kk : Kept w x1.val.heap.size (fun n => 255 - (n : Int)) 39 (w.heap.size + 1) (.int .i64 W) (.int .i64 H) (.slice A2 m cap2) 36 x3.val := ⟨by have := HB1.out; exact (by repeat (first | assumption | exact gr_refl _ | refine gr_alloc ?_ _ | refine gr_drew ?_ | refine gr_drewN ?_ _ | refine gr_ext ?_ _ | (refine gr_set ?_ ?_ _; rotate_left; (simp <;> omega)))), (HBL.out.ext x2).ext x3, (HP1.out.ext x2).ext x3⟩
          have KK := Lib.hid kk
          have hx2 := x2.size_val
          have hx3 := x3.size_val
          clear kk cp e0
          go_upto_region 16 with fail
          go_cut [15, 16] (fun s15 s16 wx => ∃ bq Aq capq, s15 = .pointer (some ⟨bq, 0, none⟩) ∧ s16 = .int .i64 0 ∧ Kept w x1.val.heap.size (fun n => 255 - (n : Int)) 39 (w.heap.size + 1) (.int .i64 W) (.int .i64 H) (.slice A2 m cap2) 36 wx ∧ Blk wx bq #[.int .i64 W, .int .i64 H, .slice Aq m capq] 46 ∧ Cells3 wx Aq m (through (fun n => 255 - (n : Int)) R) (through (fun n => 255 - (n : Int)) G) (through (fun n => 255 - (n : Int)) B) ∧ x1.val.heap.size < wx.heap.size)
          case first =>
            have y1 : Try.prog.underlying 39 = some (.array 256 5) := Try.underlying39
            have y2 : (Try.prog.info? 39).map (·.size) = some (tabL (fun n => 255 - (n : Int))).length := by rw [tabL_len]; kernel_rfl
            have y3 : (tabL (fun n => 255 - (n : Int))).length = 256 := tabL_len _
            have y4 : ∀ v ∈ tabL (fun n => 255 - (n : Int)), v.oneCell' = true := tabL_one _
            go_region_held3 (fun w' => KeptS w x1.val.heap.size (fun n => 255 - (n : Int)) 39 (w.heap.size + 1) (.int .i64 W) (.int .i64 H) (.slice A2 m cap2) 36 w' ∧ w'.rangeAt x1.val.heap.size 0 (tabL (fun n => 255 - (n : Int))) ∧ w'.cell? ⟨w.heap.size + 1, 0, none⟩ = some (.int .i64 W) ∧ w'.cell? ⟨w.heap.size + 1, 1, none⟩ = some (.int .i64 H) ∧ w'.cell? ⟨w.heap.size + 1, 2, none⟩ = some (.slice A2 m cap2)) (first | exact (KK.out.drew).out | exact (Kept.realloc (Kept.back (by assumption)) (by simp; omega) (by simp; omega) (by simp; omega) _).out | exact (Kept.realloc (Kept.back (by assumption)) (by omega) (by omega) (by omega) _).out | exact ((Kept.back (by assumption)).alloc _).out | exact ((Kept.back (by assumption)).below (by assumption)).out | exact ((((Kept.back (by assumption)).set (by simp; omega) (by simp; omega) (by simp; omega) _).set (by simp; omega) (by simp; omega) (by simp; omega) _).set (by simp; omega) (by simp; omega) (by simp; omega) _).out)
              (first | (go_at_call 22; refine (apply_any (fun n => 255 - (n : Int)) W H A3 m cap3 R G B _ HR.out (by first | exact hcl3 | exact hcl3.below (gr_alloc (gr_refl _) _)) HB.out).mono ?_; rintro e w' ⟨v, rfl, ho, hb2⟩; obtain ⟨A4, cap4, rfl, hcap4, hcl4⟩ := ho.dots; have hs2 := hb2.size; (try simp at hs2); (first | (have bq := Blk.below (Blk.at_ #[.int .i64 0, .int .i64 0, .slice none 0 0] 46 rfl) hb2; have cq := bq.cell; have fq := bq.frozen; have lq := bq.lt) | (have bq := Blk.below bq hb2; have cq := bq.cell; have fq := bq.frozen; have lq := bq.lt) | skip)) | (go_at_call 23; refine (picto_any W H A2 m cap2 R G B _ (by omega) HN.out (HD.out.below (Kept.bel (Kept.back (by assumption))))).mono ?_; rintro e w' ⟨v, rfl, ho, hb1⟩; obtain ⟨A3, cap3, rfl, hcap3, hcl3⟩ := ho.dots; have hs1 := hb1.size; (try simp at hs1); (first | (have hq0 : Below x3.val.drew.heap.size x3.val.drew w' := hb1) | (have bq : Blk _ x3.val.heap.size _ _ := Blk.below (Blk.at_ (w := x3.val.drew) #[.int .i64 0, .int .i64 0, .slice none 0 0] 46 rfl) hb1; have cq := bq.cell; have fq := bq.frozen; have lq := bq.lt))))
            all_goals go_wp2
            all_goals go_meet
            · have k9 := Kept.back (by assumption)
              exact ⟨_, _, _, rfl, rfl, k9, Blk.at_ _ _ rfl, hcl4.below (gr_alloc (gr_refl _) _), by simp; omega⟩
            · have k9 := Kept.back (by assumption)
              have n9 := ho.ne_blk bq (by decide)
              exact ⟨_, _, _, rfl, rfl, k9, ((bq.set 0 (.int .i64 W)).set 1 (.int .i64 H)).set 2 _, Own.cells3 (((ho.other n9 _).other n9 _).other n9 _), by simp; omega⟩
            · have k9 := Kept.back (by assumption)
              have n9 := ho.ne_blk bq (by decide)
              exact ⟨_, _, _, rfl, rfl, k9, ((bq.set 0 (.int .i64 W)).set 1 (.int .i64 H)).set 2 _, Own.cells3 (((ho.other n9 _).other n9 _).other n9 _), by simp; omega⟩
          case rest =>
            obtain ⟨bq, Aq, capq, rfl, rfl, kq, bqh, hcq, lq⟩ := hcut
            have cq := bqh.cell
            have lb := bqh.lt
            go_wp2_with (refine wpList_load_row rfl 39 _ rfl x1.val.heap.size rfl 39 _ (0, 0) _ kq.tab.heap Try.underlying39 rfl (by kernel_rfl) ?_)
            go_wp2_with fail
            refine (apply_any (fun n => 255 - (n : Int)) W H Aq m capq _ _ _ _ HR.out hcq (neg_bytes HB.out)).mono ?_
            rintro e w' ⟨v, rfl, ho, hb2⟩
            obtain ⟨A5, cap5, rfl, hcap5, hcl5⟩ := ho.dots
            have kq2 := kq.below hb2
            have cp := kq2.pic.cell
            have lp := kq2.pic.lt
            have lp1 : w.heap.size < w'.heap.size := by omega
            have lp2 : w.heap.size + 1 < w'.heap.size + 1 := by omega
            have HB5 := HB.out
            have hc5 := Cells3.congr hcl5 (fun i hi => neg_neg (HB5 i hi).1 (HB5 i hi).2.1) (fun i hi => neg_neg (HB5 i hi).2.2.1 (HB5 i hi).2.2.2.1) (fun i hi => neg_neg (HB5 i hi).2.2.2.2.1 (HB5 i hi).2.2.2.2.2)
            have H5 := Lib.hid hc5
            have HD5 := Lib.hid (HD.out.below kq2.bel)
            have KQ2 := Lib.hid kq2
            clear cq hcq bqh ho hb2 hcl5 hc5 HB5 kq kq2
            go_upto_region 18 with fail
            have bpn : ∀ wz, Blk (World.alloc wz (.cells #[.int .i64 W, .int .i64 H, .slice A5 m cap5] 46)) wz.heap.size #[.int .i64 W, .int .i64 H, .slice A5 m cap5] 46 := fun wz => Blk.at_ _ _ rfl
            have h5a := (H5.out.below (gr_alloc (gr_refl _) (.cells #[.int .i64 W, .int .i64 H, .slice A5 m cap5] 46)))
            have hda := (HD5.out.below (gr_alloc (gr_refl _) (.cells #[.int .i64 W, .int .i64 H, .slice A5 m cap5] 46)))
            refine wp_region_ext (by kernel_rfl) (by kernel_rfl) ?_
            repeat (go_big_quiet_step ((first | (go_at_call 10; exact Calls.grew _ (awake39_any _)) | (go_at_call 25; exact Calls.grew _ (picfrom_any W H _ m _ _)) | (go_at_call 24; exact Calls.grew _ (picsame_any W H _ _ m _ _ R G B _ (by omega) (h5a.ext _) (hda.ext _))))))
            refine wpQuiet_nil ?_
            rintro _ ⟨x7, rfl⟩
            go_wp2
            go_ret
            exact ⟨rfl, Grew.of (gr_ext (gr_alloc KQ2.out.bel _) _)⟩
end Go.Proofs.Ytneegcnidoopmaa
