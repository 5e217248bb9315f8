/- Contracts of (film.Film).Right and ref18.Right: whether a film may be. Conditions: its shapes and flows lie behind their slices. -/
import Derived.Test.YtneegcnidoopmaaDoorLt
namespace Go.Proofs.YtneegcnidoopmaaDoor
open Go.RowKit

/-- A film that may be. -/
def FilmOk (W H : Int) (nL nD nN nB nS nF : Nat) (S F : Nat → Int) : Prop := picB W H nL = true ∧ nD = nL ∧ nN = nL ∧ nB = nL ∧ nS = nL ∧ nF = nL ∧ ∀ j, j < nF → (-1 ≤ S j ∧ S j < 128) ∧ -1 ≤ F j ∧ F j < nF
noncomputable instance (W H : Int) (nL nD nN nB nS nF : Nat) (S F : Nat → Int) : Decidable (FilmOk W H nL nD nN nB nS nF S F) := Classical.propDecidable _
noncomputable def filmB (W H : Int) (nL nD nN nB nS nF : Nat) (S F : Nat → Int) : Bool := decide (FilmOk W H nL nD nN nB nS nF S F)
theorem filmB_t {W H : Int} {nL nD nN nB nS nF : Nat} {S F : Nat → Int} (h : FilmOk W H nL nD nN nB nS nF S F) : filmB W H nL nD nN nB nS nF S F = true := decide_eq_true h
theorem filmB_f {W H : Int} {nL nD nN nB nS nF : Nat} {S F : Nat → Int} (h : ¬ FilmOk W H nL nD nN nB nS nF S F) : filmB W H nL nD nN nB nS nF S F = false := decide_eq_false h
theorem filmB_out {W H : Int} {nL nD nN nB nS nF : Nat} {S F : Nat → Int} (h : filmB W H nL nD nN nB nS nF S F = true) : FilmOk W H nL nD nN nB nS nF S F := of_decide_eq_true h

set_option maxRecDepth 100000 in
set_option maxHeartbeats 4000000 in
theorem film_right_any (W H : Int) (AL AD AN AB AS AF : Option Addr) (nL cL nD cD nN cN nB cB nS cS nF cF : Nat) (S F : Nat → Int) (w : World) (hS : CellsI w AS nS S) (hF : CellsI w AF nF F) :
    Calls Tryd.prog 20 #[.agg #[.int .i64 W, .int .i64 H, .slice AL nL cL, .slice AD nD cD, .slice AN nN cN, .slice AB nB cB, .slice AS nS cS, .slice AF nF cF]] w fun e w' => e = .returned (.bool (filmB W H nL nD nN nB nS nF S F)) ∧ Grew w w' := by
  have HS := Lib.hid hS
  have HF := Lib.hid hF
  clear hS hF
  cases hp : picB W H nL with
  | false =>
    have E := Lib.hid (filmB_f (W := W) (H := H) (nL := nL) (nD := nD) (nN := nN) (nB := nB) (nS := nS) (nF := nF) (S := S) (F := F) (fun h => by rw [h.1] at hp; cases hp))
    have P := Lib.hid hp
    clear hp
    go_enter Tryd.func20, Tryd.ntmps20
    go_wp2_with fail
    refine (sheet_right_any _ _ _ _ _ _).mono ?_
    rintro e w' ⟨rfl, x1, rfl⟩
    rw [P.out]
    go_wp2
    go_ret
    exact ⟨ret_b E.out.symm, Grew.of (by repeat (first | assumption | exact gr_refl _ | refine gr_alloc ?_ _ | refine gr_drew ?_ | refine gr_drewN ?_ _ | refine gr_ext ?_ _ | (refine gr_set ?_ ?_ _; rotate_left; (simp <;> omega))))⟩
  | true =>
    have hn := picB_len hp
    have hwh := (picB_out hp).2.symm
    have hs := (picB_out hp).1
    have P := Lib.hid hp
    have HS2 := Lib.hid hs
    clear hp hs
    by_cases hnD : nD = nL
    case neg =>
      have E := Lib.hid (filmB_f (W := W) (H := H) (nL := nL) (nD := nD) (nN := nN) (nB := nB) (nS := nS) (nF := nF) (S := S) (F := F) (fun h => hnD h.2.1))
      have e1 : ((nD : Int) != (nL : Int)) = true := by simp; omega
      have e2 : (nD != nL) = true := by simp; omega
      go_enter Tryd.func20, Tryd.ntmps20
      go_wp2_with fail
      refine (sheet_right_any _ _ _ _ _ _).mono ?_
      rintro e w' ⟨rfl, x1, rfl⟩
      rw [P.out]
      have s1 := x1.size_val
      simp at s1
      have l1 : w.heap.size < x1.val.heap.size := by omega
      go_wp2_with fail
      refine (pixels_any W H _ HS2.out).mono ?_
      rintro e w' ⟨rfl, x2, rfl⟩
      have s2 := x2.size_val
      have l2 : w.heap.size < x2.val.heap.size := by omega
      rw [hwh]
      go_wp2
      go_ret
      exact ⟨ret_b E.out.symm, Grew.of (by repeat (first | assumption | exact gr_refl _ | refine gr_alloc ?_ _ | refine gr_drew ?_ | refine gr_drewN ?_ _ | refine gr_ext ?_ _ | (refine gr_set ?_ ?_ _; rotate_left; (simp <;> omega))))⟩
    have hnD := hnD.symm
    subst hnD
    by_cases hnN : nN = nL
    case neg =>
      have E := Lib.hid (filmB_f (W := W) (H := H) (nL := nL) (nD := nL) (nN := nN) (nB := nB) (nS := nS) (nF := nF) (S := S) (F := F) (fun h => hnN h.2.2.1))
      have e1 : ((nN : Int) != (nL : Int)) = true := by simp; omega
      have e2 : (nN != nL) = true := by simp; omega
      go_enter Tryd.func20, Tryd.ntmps20
      go_wp2_with fail
      refine (sheet_right_any _ _ _ _ _ _).mono ?_
      rintro e w' ⟨rfl, x1, rfl⟩
      rw [P.out]
      have s1 := x1.size_val
      simp at s1
      have l1 : w.heap.size < x1.val.heap.size := by omega
      go_wp2_with fail
      refine (pixels_any W H _ HS2.out).mono ?_
      rintro e w' ⟨rfl, x2, rfl⟩
      have s2 := x2.size_val
      have l2 : w.heap.size < x2.val.heap.size := by omega
      rw [hwh]
      go_wp2
      go_ret
      exact ⟨ret_b E.out.symm, Grew.of (by repeat (first | assumption | exact gr_refl _ | refine gr_alloc ?_ _ | refine gr_drew ?_ | refine gr_drewN ?_ _ | refine gr_ext ?_ _ | (refine gr_set ?_ ?_ _; rotate_left; (simp <;> omega))))⟩
    have hnN := hnN.symm
    subst hnN
    by_cases hnB : nB = nL
    case neg =>
      have E := Lib.hid (filmB_f (W := W) (H := H) (nL := nL) (nD := nL) (nN := nL) (nB := nB) (nS := nS) (nF := nF) (S := S) (F := F) (fun h => hnB h.2.2.2.1))
      have e1 : ((nB : Int) != (nL : Int)) = true := by simp; omega
      have e2 : (nB != nL) = true := by simp; omega
      go_enter Tryd.func20, Tryd.ntmps20
      go_wp2_with fail
      refine (sheet_right_any _ _ _ _ _ _).mono ?_
      rintro e w' ⟨rfl, x1, rfl⟩
      rw [P.out]
      have s1 := x1.size_val
      simp at s1
      have l1 : w.heap.size < x1.val.heap.size := by omega
      go_wp2_with fail
      refine (pixels_any W H _ HS2.out).mono ?_
      rintro e w' ⟨rfl, x2, rfl⟩
      have s2 := x2.size_val
      have l2 : w.heap.size < x2.val.heap.size := by omega
      rw [hwh]
      go_wp2
      go_ret
      exact ⟨ret_b E.out.symm, Grew.of (by repeat (first | assumption | exact gr_refl _ | refine gr_alloc ?_ _ | refine gr_drew ?_ | refine gr_drewN ?_ _ | refine gr_ext ?_ _ | (refine gr_set ?_ ?_ _; rotate_left; (simp <;> omega))))⟩
    have hnB := hnB.symm
    subst hnB
    by_cases hnS : nS = nL
    case neg =>
      have E := Lib.hid (filmB_f (W := W) (H := H) (nL := nL) (nD := nL) (nN := nL) (nB := nL) (nS := nS) (nF := nF) (S := S) (F := F) (fun h => hnS h.2.2.2.2.1))
      have e1 : ((nS : Int) != (nL : Int)) = true := by simp; omega
      have e2 : (nS != nL) = true := by simp; omega
      go_enter Tryd.func20, Tryd.ntmps20
      go_wp2_with fail
      refine (sheet_right_any _ _ _ _ _ _).mono ?_
      rintro e w' ⟨rfl, x1, rfl⟩
      rw [P.out]
      have s1 := x1.size_val
      simp at s1
      have l1 : w.heap.size < x1.val.heap.size := by omega
      go_wp2_with fail
      refine (pixels_any W H _ HS2.out).mono ?_
      rintro e w' ⟨rfl, x2, rfl⟩
      have s2 := x2.size_val
      have l2 : w.heap.size < x2.val.heap.size := by omega
      rw [hwh]
      go_wp2
      go_ret
      exact ⟨ret_b E.out.symm, Grew.of (by repeat (first | assumption | exact gr_refl _ | refine gr_alloc ?_ _ | refine gr_drew ?_ | refine gr_drewN ?_ _ | refine gr_ext ?_ _ | (refine gr_set ?_ ?_ _; rotate_left; (simp <;> omega))))⟩
    have hnS := hnS.symm
    subst hnS
    by_cases hnF : nF = nL
    case neg =>
      have E := Lib.hid (filmB_f (W := W) (H := H) (nL := nL) (nD := nL) (nN := nL) (nB := nL) (nS := nL) (nF := nF) (S := S) (F := F) (fun h => hnF h.2.2.2.2.2.1))
      have e1 : ((nF : Int) != (nL : Int)) = true := by simp; omega
      have e2 : (nF != nL) = true := by simp; omega
      go_enter Tryd.func20, Tryd.ntmps20
      go_wp2_with fail
      refine (sheet_right_any _ _ _ _ _ _).mono ?_
      rintro e w' ⟨rfl, x1, rfl⟩
      rw [P.out]
      have s1 := x1.size_val
      simp at s1
      have l1 : w.heap.size < x1.val.heap.size := by omega
      go_wp2_with fail
      refine (pixels_any W H _ HS2.out).mono ?_
      rintro e w' ⟨rfl, x2, rfl⟩
      have s2 := x2.size_val
      have l2 : w.heap.size < x2.val.heap.size := by omega
      rw [hwh]
      go_wp2
      go_ret
      exact ⟨ret_b E.out.symm, Grew.of (by repeat (first | assumption | exact gr_refl _ | refine gr_alloc ?_ _ | refine gr_drew ?_ | refine gr_drewN ?_ _ | refine gr_ext ?_ _ | (refine gr_set ?_ ?_ _; rotate_left; (simp <;> omega))))⟩
    have hnF := hnF.symm
    subst hnF
    go_enter Tryd.func20, Tryd.ntmps20
    go_wp2_with fail
    refine (sheet_right_any _ _ _ _ _ _).mono ?_
    rintro e w' ⟨rfl, x1, rfl⟩
    rw [P.out]
    have s1 := x1.size_val
    simp at s1
    have l1 : w.heap.size < x1.val.heap.size := by omega
    go_wp2_with fail
    refine (pixels_any W H _ HS2.out).mono ?_
    rintro e w' ⟨rfl, x2, rfl⟩
    have s2 := x2.size_val
    have l2 : w.heap.size < x2.val.heap.size := by omega
    rw [hwh]
    go_wp2
    go_loopw [47] (fun i wr => ∃ k : Nat, k ≤ nL ∧ i = .int .i64 k ∧ (∀ j, j < k → (-1 ≤ S j ∧ S j < 128) ∧ -1 ≤ F j ∧ F j < nL) ∧ Below w.heap.size w wr ∧ Blk wr w.heap.size #[.int .i64 W, .int .i64 H, .slice AL nL cL, .slice AD nL cD, .slice AN nL cN, .slice AB nL cB, .slice AS nL cS, .slice AF nL cF] 43) (fun i _ => nL - (intOf i).toNat)
    case atStart => exact ⟨0, by omega, rfl, fun j hj => by omega, (by repeat (first | assumption | exact gr_refl _ | refine gr_alloc ?_ _ | refine gr_drew ?_ | refine gr_drewN ?_ _ | refine gr_ext ?_ _ | (refine gr_set ?_ ?_ _; rotate_left; (simp <;> omega)))), (by repeat (first | assumption | (refine Blk.at_ _ _ ?_; simp; done) | refine Blk.alloc ?_ _ | refine Blk.drew ?_ | refine Blk.ext ?_ _ | exact Blk.set (by assumption) _ _ | (refine Blk.other ?_ ?_ _; rotate_left; (simp <;> omega))))⟩
    case round =>
      obtain ⟨k, hk, rfl, hok, hb, hbl⟩ := hrel
      have l3 := hbl.lt
      have cb := hbl.cell
      have HOK := Lib.hid hok
      have HBL := Lib.hid hbl
      have HBE := Lib.hid hb
      by_cases hlt : k < nL
      · obtain ⟨b, off, rfl, hcell⟩ := HS.out (by omega)
        obtain ⟨b', off', rfl, hcell'⟩ := HF.out (by omega)
        have c0 := cell_later hb (hcell k hlt)
        have c1 := cell_later hb (hcell' k hlt)
        have lb : b < wr.heap.size := World.block_lt_of_cell? _ _ c0
        have lb' : b' < wr.heap.size := World.block_lt_of_cell? _ _ c1
        clear hcell hcell' hok hb hbl
        by_cases g1 : S k < -1
        case pos =>
          have dg1 : decide (S k < -1) = true := decide_eq_true g1
          have E := Lib.hid (filmB_f (W := W) (H := H) (nL := nL) (nD := nL) (nN := nL) (nB := nL) (nS := nL) (nF := nL) (S := S) (F := F) (fun h => by have := h.2.2.2.2.2.2 k hlt; omega))
          go_wp2
          go_ret
          exact ⟨ret_b E.out.symm, Grew.of HBE.out⟩
        have dg1 : decide (S k < -1) = false := decide_eq_false g1
        by_cases g2 : 128 ≤ S k
        case pos =>
          have dg2 : decide (128 ≤ S k) = true := decide_eq_true g2
          have E := Lib.hid (filmB_f (W := W) (H := H) (nL := nL) (nD := nL) (nN := nL) (nB := nL) (nS := nL) (nF := nL) (S := S) (F := F) (fun h => by have := h.2.2.2.2.2.2 k hlt; omega))
          go_wp2
          go_ret
          exact ⟨ret_b E.out.symm, Grew.of HBE.out⟩
        have dg2 : decide (128 ≤ S k) = false := decide_eq_false g2
        by_cases g3 : F k < -1
        case pos =>
          have dg3 : decide (F k < -1) = true := decide_eq_true g3
          have E := Lib.hid (filmB_f (W := W) (H := H) (nL := nL) (nD := nL) (nN := nL) (nB := nL) (nS := nL) (nF := nL) (S := S) (F := F) (fun h => by have := h.2.2.2.2.2.2 k hlt; omega))
          go_wp2
          go_ret
          exact ⟨ret_b E.out.symm, Grew.of HBE.out⟩
        have dg3 : decide (F k < -1) = false := decide_eq_false g3
        by_cases g4 : (nL : Int) ≤ F k
        case pos =>
          have dg4 : decide ((nL : Int) ≤ F k) = true := decide_eq_true g4
          have E := Lib.hid (filmB_f (W := W) (H := H) (nL := nL) (nD := nL) (nN := nL) (nB := nL) (nS := nL) (nF := nL) (S := S) (F := F) (fun h => by have := h.2.2.2.2.2.2 k hlt; omega))
          go_wp2
          go_ret
          exact ⟨ret_b E.out.symm, Grew.of HBE.out⟩
        have dg4 : decide ((nL : Int) ≤ F k) = false := decide_eq_false g4
        go_wp2
        go_roundw
        case rel => exact ⟨k + 1, by omega, by go_num, fun j hj => by
          by_cases e : j = k
          · subst e; omega
          · exact HOK.out j (by omega), HBE.out, HBL.out⟩
        case measure => simp [intOf]; omega
      · obtain rfl : nL = k := by omega
        have E := Lib.hid (filmB_t (W := W) (H := H) (nL := nL) (nD := nL) (nN := nL) (nB := nL) (nS := nL) (nF := nL) (S := S) (F := F) ⟨P.out, rfl, rfl, rfl, rfl, rfl, hok⟩)
        clear hok
        go_wp2
        go_ret
        exact ⟨ret_b E.out.symm, Grew.of HBE.out⟩

set_option maxRecDepth 100000 in
set_option maxHeartbeats 4000000 in
theorem rfilm_right_any (W H : Int) (AL AD AN AB AS AF : Option Addr) (nL cL nD cD nN cN nB cB nS cS nF cF : Nat) (S F : Nat → Int) (w : World) (hS : CellsI w AS nS S) (hF : CellsI w AF nF F) :
    Calls Tryd.prog 16 #[.agg #[.int .i64 W, .int .i64 H, .slice AL nL cL, .slice AD nD cD, .slice AN nN cN, .slice AB nB cB, .slice AS nS cS, .slice AF nF cF]] w fun e w' => e = .returned (.bool (filmB W H nL nD nN nB nS nF S F)) ∧ Grew w w' := by
  have HS := Lib.hid hS
  have HF := Lib.hid hF
  clear hS hF
  cases hp : picB W H nL with
  | false =>
    have E := Lib.hid (filmB_f (W := W) (H := H) (nL := nL) (nD := nD) (nN := nN) (nB := nB) (nS := nS) (nF := nF) (S := S) (F := F) (fun h => by rw [h.1] at hp; cases hp))
    have P := Lib.hid hp
    clear hp
    go_enter Tryd.func16, Tryd.ntmps16
    go_wp2_with fail
    refine (rsheet_right_any _ _ _ _ _ _).mono ?_
    rintro e w' ⟨rfl, x1, rfl⟩
    rw [P.out]
    go_wp2
    go_ret
    exact ⟨ret_b E.out.symm, Grew.of (by repeat (first | assumption | exact gr_refl _ | refine gr_alloc ?_ _ | refine gr_drew ?_ | refine gr_drewN ?_ _ | refine gr_ext ?_ _ | (refine gr_set ?_ ?_ _; rotate_left; (simp <;> omega))))⟩
  | true =>
    have hn := picB_len hp
    have hwh := (picB_out hp).2.symm
    have hs := (picB_out hp).1
    have P := Lib.hid hp
    have HS2 := Lib.hid hs
    clear hp hs
    by_cases hnD : nD = nL
    case neg =>
      have E := Lib.hid (filmB_f (W := W) (H := H) (nL := nL) (nD := nD) (nN := nN) (nB := nB) (nS := nS) (nF := nF) (S := S) (F := F) (fun h => hnD h.2.1))
      have e1 : ((nD : Int) != (nL : Int)) = true := by simp; omega
      have e2 : (nD != nL) = true := by simp; omega
      go_enter Tryd.func16, Tryd.ntmps16
      go_wp2_with fail
      refine (rsheet_right_any _ _ _ _ _ _).mono ?_
      rintro e w' ⟨rfl, x1, rfl⟩
      rw [P.out]
      have s1 := x1.size_val
      simp at s1
      have l1 : w.heap.size < x1.val.heap.size := by omega
      go_wp2
      go_ret
      exact ⟨ret_b E.out.symm, Grew.of (by repeat (first | assumption | exact gr_refl _ | refine gr_alloc ?_ _ | refine gr_drew ?_ | refine gr_drewN ?_ _ | refine gr_ext ?_ _ | (refine gr_set ?_ ?_ _; rotate_left; (simp <;> omega))))⟩
    have hnD := hnD.symm
    subst hnD
    by_cases hnN : nN = nL
    case neg =>
      have E := Lib.hid (filmB_f (W := W) (H := H) (nL := nL) (nD := nL) (nN := nN) (nB := nB) (nS := nS) (nF := nF) (S := S) (F := F) (fun h => hnN h.2.2.1))
      have e1 : ((nN : Int) != (nL : Int)) = true := by simp; omega
      have e2 : (nN != nL) = true := by simp; omega
      go_enter Tryd.func16, Tryd.ntmps16
      go_wp2_with fail
      refine (rsheet_right_any _ _ _ _ _ _).mono ?_
      rintro e w' ⟨rfl, x1, rfl⟩
      rw [P.out]
      have s1 := x1.size_val
      simp at s1
      have l1 : w.heap.size < x1.val.heap.size := by omega
      go_wp2
      go_ret
      exact ⟨ret_b E.out.symm, Grew.of (by repeat (first | assumption | exact gr_refl _ | refine gr_alloc ?_ _ | refine gr_drew ?_ | refine gr_drewN ?_ _ | refine gr_ext ?_ _ | (refine gr_set ?_ ?_ _; rotate_left; (simp <;> omega))))⟩
    have hnN := hnN.symm
    subst hnN
    by_cases hnB : nB = nL
    case neg =>
      have E := Lib.hid (filmB_f (W := W) (H := H) (nL := nL) (nD := nL) (nN := nL) (nB := nB) (nS := nS) (nF := nF) (S := S) (F := F) (fun h => hnB h.2.2.2.1))
      have e1 : ((nB : Int) != (nL : Int)) = true := by simp; omega
      have e2 : (nB != nL) = true := by simp; omega
      go_enter Tryd.func16, Tryd.ntmps16
      go_wp2_with fail
      refine (rsheet_right_any _ _ _ _ _ _).mono ?_
      rintro e w' ⟨rfl, x1, rfl⟩
      rw [P.out]
      have s1 := x1.size_val
      simp at s1
      have l1 : w.heap.size < x1.val.heap.size := by omega
      go_wp2
      go_ret
      exact ⟨ret_b E.out.symm, Grew.of (by repeat (first | assumption | exact gr_refl _ | refine gr_alloc ?_ _ | refine gr_drew ?_ | refine gr_drewN ?_ _ | refine gr_ext ?_ _ | (refine gr_set ?_ ?_ _; rotate_left; (simp <;> omega))))⟩
    have hnB := hnB.symm
    subst hnB
    by_cases hnS : nS = nL
    case neg =>
      have E := Lib.hid (filmB_f (W := W) (H := H) (nL := nL) (nD := nL) (nN := nL) (nB := nL) (nS := nS) (nF := nF) (S := S) (F := F) (fun h => hnS h.2.2.2.2.1))
      have e1 : ((nS : Int) != (nL : Int)) = true := by simp; omega
      have e2 : (nS != nL) = true := by simp; omega
      go_enter Tryd.func16, Tryd.ntmps16
      go_wp2_with fail
      refine (rsheet_right_any _ _ _ _ _ _).mono ?_
      rintro e w' ⟨rfl, x1, rfl⟩
      rw [P.out]
      have s1 := x1.size_val
      simp at s1
      have l1 : w.heap.size < x1.val.heap.size := by omega
      go_wp2
      go_ret
      exact ⟨ret_b E.out.symm, Grew.of (by repeat (first | assumption | exact gr_refl _ | refine gr_alloc ?_ _ | refine gr_drew ?_ | refine gr_drewN ?_ _ | refine gr_ext ?_ _ | (refine gr_set ?_ ?_ _; rotate_left; (simp <;> omega))))⟩
    have hnS := hnS.symm
    subst hnS
    by_cases hnF : nF = nL
    case neg =>
      have E := Lib.hid (filmB_f (W := W) (H := H) (nL := nL) (nD := nL) (nN := nL) (nB := nL) (nS := nL) (nF := nF) (S := S) (F := F) (fun h => hnF h.2.2.2.2.2.1))
      have e1 : ((nF : Int) != (nL : Int)) = true := by simp; omega
      have e2 : (nF != nL) = true := by simp; omega
      go_enter Tryd.func16, Tryd.ntmps16
      go_wp2_with fail
      refine (rsheet_right_any _ _ _ _ _ _).mono ?_
      rintro e w' ⟨rfl, x1, rfl⟩
      rw [P.out]
      have s1 := x1.size_val
      simp at s1
      have l1 : w.heap.size < x1.val.heap.size := by omega
      go_wp2
      go_ret
      exact ⟨ret_b E.out.symm, Grew.of (by repeat (first | assumption | exact gr_refl _ | refine gr_alloc ?_ _ | refine gr_drew ?_ | refine gr_drewN ?_ _ | refine gr_ext ?_ _ | (refine gr_set ?_ ?_ _; rotate_left; (simp <;> omega))))⟩
    have hnF := hnF.symm
    subst hnF
    go_enter Tryd.func16, Tryd.ntmps16
    go_wp2_with fail
    refine (rsheet_right_any _ _ _ _ _ _).mono ?_
    rintro e w' ⟨rfl, x1, rfl⟩
    rw [P.out]
    have s1 := x1.size_val
    simp at s1
    have l1 : w.heap.size < x1.val.heap.size := by omega
    go_wp2
    go_loopw [4] (fun i wr => ∃ k : Nat, k ≤ nL ∧ i = .int .i64 k ∧ (∀ j, j < k → (-1 ≤ S j ∧ S j < 128) ∧ -1 ≤ F j ∧ F j < nL) ∧ Below w.heap.size w wr ∧ Blk wr w.heap.size #[.int .i64 W, .int .i64 H, .slice AL nL cL, .slice AD nL cD, .slice AN nL cN, .slice AB nL cB, .slice AS nL cS, .slice AF nL cF] 29) (fun i _ => nL - (intOf i).toNat)
    case atStart => exact ⟨0, by omega, rfl, fun j hj => by omega, (by repeat (first | assumption | exact gr_refl _ | refine gr_alloc ?_ _ | refine gr_drew ?_ | refine gr_drewN ?_ _ | refine gr_ext ?_ _ | (refine gr_set ?_ ?_ _; rotate_left; (simp <;> omega)))), (by repeat (first | assumption | (refine Blk.at_ _ _ ?_; simp; done) | refine Blk.alloc ?_ _ | refine Blk.drew ?_ | refine Blk.ext ?_ _ | exact Blk.set (by assumption) _ _ | (refine Blk.other ?_ ?_ _; rotate_left; (simp <;> omega))))⟩
    case round =>
      obtain ⟨k, hk, rfl, hok, hb, hbl⟩ := hrel
      have l3 := hbl.lt
      have cb := hbl.cell
      have HOK := Lib.hid hok
      have HBL := Lib.hid hbl
      have HBE := Lib.hid hb
      by_cases hlt : k < nL
      · obtain ⟨b, off, rfl, hcell⟩ := HS.out (by omega)
        obtain ⟨b', off', rfl, hcell'⟩ := HF.out (by omega)
        have c0 := cell_later hb (hcell k hlt)
        have c1 := cell_later hb (hcell' k hlt)
        have lb : b < wr.heap.size := World.block_lt_of_cell? _ _ c0
        have lb' : b' < wr.heap.size := World.block_lt_of_cell? _ _ c1
        clear hcell hcell' hok hb hbl
        by_cases g1 : S k < -1
        case pos =>
          have dg1 : decide (S k < -1) = true := decide_eq_true g1
          have E := Lib.hid (filmB_f (W := W) (H := H) (nL := nL) (nD := nL) (nN := nL) (nB := nL) (nS := nL) (nF := nL) (S := S) (F := F) (fun h => by have := h.2.2.2.2.2.2 k hlt; omega))
          go_wp2
          go_ret
          exact ⟨ret_b E.out.symm, Grew.of HBE.out⟩
        have dg1 : decide (S k < -1) = false := decide_eq_false g1
        by_cases g2 : 128 ≤ S k
        case pos =>
          have dg2 : decide (128 ≤ S k) = true := decide_eq_true g2
          have E := Lib.hid (filmB_f (W := W) (H := H) (nL := nL) (nD := nL) (nN := nL) (nB := nL) (nS := nL) (nF := nL) (S := S) (F := F) (fun h => by have := h.2.2.2.2.2.2 k hlt; omega))
          go_wp2
          go_ret
          exact ⟨ret_b E.out.symm, Grew.of HBE.out⟩
        have dg2 : decide (128 ≤ S k) = false := decide_eq_false g2
        by_cases g3 : F k < -1
        case pos =>
          have dg3 : decide (F k < -1) = true := decide_eq_true g3
          have E := Lib.hid (filmB_f (W := W) (H := H) (nL := nL) (nD := nL) (nN := nL) (nB := nL) (nS := nL) (nF := nL) (S := S) (F := F) (fun h => by have := h.2.2.2.2.2.2 k hlt; omega))
          go_wp2
          go_ret
          exact ⟨ret_b E.out.symm, Grew.of HBE.out⟩
        have dg3 : decide (F k < -1) = false := decide_eq_false g3
        by_cases g4 : (nL : Int) ≤ F k
        case pos =>
          have dg4 : decide ((nL : Int) ≤ F k) = true := decide_eq_true g4
          have E := Lib.hid (filmB_f (W := W) (H := H) (nL := nL) (nD := nL) (nN := nL) (nB := nL) (nS := nL) (nF := nL) (S := S) (F := F) (fun h => by have := h.2.2.2.2.2.2 k hlt; omega))
          go_wp2
          go_ret
          exact ⟨ret_b E.out.symm, Grew.of HBE.out⟩
        have dg4 : decide ((nL : Int) ≤ F k) = false := decide_eq_false g4
        go_wp2
        go_roundw
        case rel => exact ⟨k + 1, by omega, by go_num, fun j hj => by
          by_cases e : j = k
          · subst e; omega
          · exact HOK.out j (by omega), HBE.out, HBL.out⟩
        case measure => simp [intOf]; omega
      · obtain rfl : nL = k := by omega
        have E := Lib.hid (filmB_t (W := W) (H := H) (nL := nL) (nD := nL) (nN := nL) (nB := nL) (nS := nL) (nF := nL) (S := S) (F := F) ⟨P.out, rfl, rfl, rfl, rfl, rfl, hok⟩)
        clear hok
        go_wp2
        go_ret
        exact ⟨ret_b E.out.symm, Grew.of HBE.out⟩
end Go.Proofs.YtneegcnidoopmaaDoor
