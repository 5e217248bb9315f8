/- Contracts of law18.ToSheet and law18.FromSheet: a sheet as the program's, as the document's. Conditions: the lights lie behind the slice, no more than a million. -/
import Derived.Test.YtneegcnidoopmaaDoorSh
namespace Go.Proofs.YtneegcnidoopmaaDoor
open Go.RowKit

/-- A sheet of the call's own. -/
def RetSheet (w : World) (T : Nat) (W H : Int) (n : Nat) (R G B : Nat → Int) (e : Ending) (w' : World) : Prop :=
  ∃ v, e = .returned (.agg #[.int .i64 W, .int .i64 H, v]) ∧ Own w' w.heap.size T 3 v ((List.range n).map (hueC R G B)) ∧ Below w.heap.size w w'

set_option maxHeartbeats 2000000 in
theorem tosheet_any (W H : Int) (A : Option Addr) (n cap : Nat) (R G B : Nat → Int) (w : World) (hn : n ≤ 1000000) (hc : CellsH w A n R G B) :
    Calls Tryd.prog 10 #[.agg #[.int .i64 W, .int .i64 H, .slice A n cap]] w (RetSheet w 58 W H n R G B) := by
  have HC := Lib.hid hc
  clear hc
  go_enter Tryd.func10, Tryd.ntmps10
  go_wp2
  go_loopw [15] (fun i wr => ∃ (k : Nat) (v : Value), k ≤ n ∧ i = .int .i64 k ∧ Below w.heap.size w wr ∧ Blk wr (w.heap.size + 1) #[.int .i64 0, .int .i64 0, .slice none 0 0] 36 ∧
      Blk wr (w.heap.size + 1 + 1) #[.int .i64 W, .int .i64 H, v] 36 ∧ Own wr w.heap.size 58 3 v ((List.range k).map (hueC R G B))) (fun i _ => n - (intOf i).toNat)
  case atStart => exact ⟨0, .slice none 0 0, by omega, rfl, (by repeat (first | assumption | exact gr_refl _ | refine gr_alloc ?_ _ | refine gr_drew ?_ | refine gr_drewN ?_ _ | refine gr_ext ?_ _ | (refine gr_set ?_ ?_ _; rotate_left; (simp <;> omega)))), (by repeat (first | assumption | (refine Blk.at_ _ _ ?_; simp; done) | refine Blk.alloc ?_ _ | refine Blk.drew ?_ | refine Blk.ext ?_ _ | exact Blk.set (by assumption) _ _ | (refine Blk.other ?_ ?_ _; rotate_left; (simp <;> omega)))), (by repeat (first | assumption | (refine Blk.at_ _ _ ?_; simp; done) | refine Blk.alloc ?_ _ | refine Blk.drew ?_ | refine Blk.ext ?_ _ | exact Blk.set (by assumption) _ _ | (refine Blk.other ?_ ?_ _; rotate_left; (simp <;> omega)))), Own.nil _ _ _ _⟩
  case round =>
    obtain ⟨k, v, hk, rfl, hb, hres, hout, hown⟩ := hrel
    have l2 := hres.lt
    have l3 := hout.lt
    by_cases hlt : k < n
    · obtain ⟨b, off, rfl, hcell⟩ := HC.out (by omega)
      obtain ⟨q0, q1, q2⟩ := hcell k hlt
      have c0 := cell_later hb q0
      have c1 := cell_later hb q1
      have c2 := cell_later hb q2
      have lb : b < wr.heap.size := World.block_lt_of_cell? _ _ c0
      obtain ⟨A', cap', rfl, hcap', _, _⟩ := hown.cells
      simp only [List.length_map, List.length_range] at hown hcap' hout
      have co := hout.cell 2
      simp at co
      have HR := Lib.hid hres
      have HO := Lib.hid hout
      have HW := Lib.hid hown
      have HBE := Lib.hid hb
      have n1 := hown.ne_blk hout (by decide)
      have n2 := hown.ne_blk hres (by decide)
      have N1 := Lib.hid n1
      have N2 := Lib.hid n2
      clear hcell q0 q1 q2 hres hout hown hb n1 n2
      have l3s : w.heap.size + 1 + 1 < wr.heap.size + 1 := by omega
      obtain ⟨wo, rfl⟩ : ∃ wo : World, wo = wr := ⟨_, rfl⟩
      go_wp2
      refine wp_region_earlyX 4 (by kernel_rfl) (by kernel_rfl) (by kernel_rfl) _ rfl rfl ?_
      apply Exists.intro
      refine ⟨fun xh => ?_, fun xt => ?_⟩
      · simp only [List.take_succ_cons, List.take_zero]
        repeat (go_big_quiet_step ((first | (go_at_call 17; exact Calls.grew _ (hto_any _ _ _ _)))))
        exact wpQuiet_nil rfl
      apply Exists.intro
      apply Exists.intro
      refine ⟨by go_simp; exact ⟨rfl, rfl⟩, gr_alloc (gr_refl _) _, fun yt => ?_⟩
      simp only [List.drop_succ_cons, List.drop_zero]
      have hxt := xt.size_val
      simp at hxt
      have hyt := yt.size_val
      simp at hyt
      have bnew : Blk yt.val xt.val.heap.size #[.int .i64 (R k), .int .i64 (G k), .int .i64 (B k)] 58 := (by repeat (first | assumption | (refine Blk.at_ _ _ ?_; simp; done) | refine Blk.alloc ?_ _ | refine Blk.drew ?_ | refine Blk.ext ?_ _ | exact Blk.set (by assumption) _ _ | (refine Blk.other ?_ ?_ _; rotate_left; (simp <;> omega))))
      have bgr : Below w.heap.size w yt.val := by have := HBE.out; exact (by repeat (first | assumption | exact gr_refl _ | refine gr_alloc ?_ _ | refine gr_drew ?_ | refine gr_drewN ?_ _ | refine gr_ext ?_ _ | (refine gr_set ?_ ?_ _; rotate_left; (simp <;> omega))))
      have own2 : Own yt.val w.heap.size 58 3 (.slice A' k cap') ((List.range k).map (hueC R G B)) := (((HW.out.alloc _).ext xt).alloc _).ext yt
      have br : Blk yt.val (w.heap.size + 1) #[.int .i64 0, .int .i64 0, .slice none 0 0] 36 := by have := HR.out; exact (by repeat (first | assumption | (refine Blk.at_ _ _ ?_; simp; done) | refine Blk.alloc ?_ _ | refine Blk.drew ?_ | refine Blk.ext ?_ _ | exact Blk.set (by assumption) _ _ | (refine Blk.other ?_ ?_ _; rotate_left; (simp <;> omega))))
      have bo : Blk yt.val (w.heap.size + 1 + 1) #[.int .i64 W, .int .i64 H, .slice A' k cap'] 36 := by have := HO.out; exact (by repeat (first | assumption | (refine Blk.at_ _ _ ?_; simp; done) | refine Blk.alloc ?_ _ | refine Blk.drew ?_ | refine Blk.ext ?_ _ | exact Blk.set (by assumption) _ _ | (refine Blk.other ?_ ?_ _; rotate_left; (simp <;> omega))))
      go_wp2_with (at_builtin; refine own_append1 (w0 := w) rfl _ _ 34 rfl w.heap.size 58 (.agg #[.int .i64 0, .int .i64 0, .int .i64 0]) 3 24 Tryd.underlying34 (by kernel_rfl) rfl (by omega) _ _ rfl own2 xt.val.heap.size [.int .i64 (R k), .int .i64 (G k), .int .i64 (B k)] rfl bnew rfl (by intro u hu; simp at hu; rcases hu with rfl | rfl | rfl <;> rfl) (by simp; omega) (by omega) bgr (Nat.le_refl _) (by omega) ?_)
      intro v' w1 ho1 hb1 hg1
      have d0 : hueC R G B k = [.int .i64 (R k), .int .i64 (G k), .int .i64 (B k)] := rfl
      rw [← d0, ← map_range_succ] at ho1
      have br1 := br.grown hg1 (Ne.symm N2.out)
      have bo1 := bo.grown hg1 (Ne.symm N1.out)
      have lb1 := bo1.lt
      obtain ⟨A2, cap2, rfl, _, _, _⟩ := ho1.cells
      have n5 := ho1.ne_blk bo1 (by decide)
      have co1 := bo1.cell
      have fo1 := bo1.frozen
      have BR1 := Lib.hid br1
      have BO1 := Lib.hid bo1
      have HO1 := Lib.hid ho1
      have HB1 := Lib.hid hb1
      have N5 := Lib.hid n5
      simp only [List.length_map, List.length_range] at HO1 N5
      clear br1 bo1 ho1 hb1 hg1 n5 bnew bgr own2 br bo d0
      go_wp2
      go_roundw
      case rel =>
        refine ⟨k + 1, .slice A2 (k + 1) cap2, by omega, by go_num, gr_set HB1.out (by simp; omega) _, BR1.out.other (by simp) _, BO1.out.set _ _, HO1.out.other N5.out _⟩
      case measure => simp [intOf]; omega
    · obtain rfl : n = k := by omega
      obtain ⟨A', cap', rfl, hcap', _, _⟩ := hown.cells
      simp only [List.length_map, List.length_range] at hown hcap' hout
      have n2 := hown.ne_blk hres (by decide)
      have co := hout.cell
      have cr := hres.cell
      have fr := hres.frozen
      have HW := Lib.hid hown
      have N2 := Lib.hid n2
      clear hown n2
      go_wp2
      refine bodyPost_ret (v := .agg #[.int .i64 W, .int .i64 H, .slice A' n cap']) (by simp [results, Tryd.results10, go_sem, cr]) rfl ⟨_, rfl, ?_, ?_⟩
      · exact ((HW.out.other N2.out _).other N2.out _).other N2.out _
      · exact gr_set (gr_set (gr_set hb (by simp) _) (by simp) _) (by simp) _

set_option maxHeartbeats 2000000 in
theorem fromsheet_any (W H : Int) (A : Option Addr) (n cap : Nat) (R G B : Nat → Int) (w : World) (hn : n ≤ 1000000) (hc : CellsH w A n R G B) :
    Calls Tryd.prog 13 #[.agg #[.int .i64 W, .int .i64 H, .slice A n cap]] w (RetSheet w 54 W H n R G B) := by
  have HC := Lib.hid hc
  clear hc
  go_enter Tryd.func13, Tryd.ntmps13
  go_wp2
  go_loopw [16] (fun i wr => ∃ (k : Nat) (v : Value), k ≤ n ∧ i = .int .i64 k ∧ Below w.heap.size w wr ∧ Blk wr (w.heap.size + 1) #[.int .i64 0, .int .i64 0, .slice none 0 0] 24 ∧
      Blk wr (w.heap.size + 1 + 1) #[.int .i64 W, .int .i64 H, v] 24 ∧ Own wr w.heap.size 54 3 v ((List.range k).map (hueC R G B))) (fun i _ => n - (intOf i).toNat)
  case atStart => exact ⟨0, .slice none 0 0, by omega, rfl, (by repeat (first | assumption | exact gr_refl _ | refine gr_alloc ?_ _ | refine gr_drew ?_ | refine gr_drewN ?_ _ | refine gr_ext ?_ _ | (refine gr_set ?_ ?_ _; rotate_left; (simp <;> omega)))), (by repeat (first | assumption | (refine Blk.at_ _ _ ?_; simp; done) | refine Blk.alloc ?_ _ | refine Blk.drew ?_ | refine Blk.ext ?_ _ | exact Blk.set (by assumption) _ _ | (refine Blk.other ?_ ?_ _; rotate_left; (simp <;> omega)))), (by repeat (first | assumption | (refine Blk.at_ _ _ ?_; simp; done) | refine Blk.alloc ?_ _ | refine Blk.drew ?_ | refine Blk.ext ?_ _ | exact Blk.set (by assumption) _ _ | (refine Blk.other ?_ ?_ _; rotate_left; (simp <;> omega)))), Own.nil _ _ _ _⟩
  case round =>
    obtain ⟨k, v, hk, rfl, hb, hres, hout, hown⟩ := hrel
    have l2 := hres.lt
    have l3 := hout.lt
    by_cases hlt : k < n
    · obtain ⟨b, off, rfl, hcell⟩ := HC.out (by omega)
      obtain ⟨q0, q1, q2⟩ := hcell k hlt
      have c0 := cell_later hb q0
      have c1 := cell_later hb q1
      have c2 := cell_later hb q2
      have lb : b < wr.heap.size := World.block_lt_of_cell? _ _ c0
      obtain ⟨A', cap', rfl, hcap', _, _⟩ := hown.cells
      simp only [List.length_map, List.length_range] at hown hcap' hout
      have co := hout.cell 2
      simp at co
      have HR := Lib.hid hres
      have HO := Lib.hid hout
      have HW := Lib.hid hown
      have HBE := Lib.hid hb
      have n1 := hown.ne_blk hout (by decide)
      have n2 := hown.ne_blk hres (by decide)
      have N1 := Lib.hid n1
      have N2 := Lib.hid n2
      clear hcell q0 q1 q2 hres hout hown hb n1 n2
      have l3s : w.heap.size + 1 + 1 < wr.heap.size + 1 := by omega
      obtain ⟨wo, rfl⟩ : ∃ wo : World, wo = wr := ⟨_, rfl⟩
      go_wp2
      refine wp_region_earlyX 4 (by kernel_rfl) (by kernel_rfl) (by kernel_rfl) _ rfl rfl ?_
      apply Exists.intro
      refine ⟨fun xh => ?_, fun xt => ?_⟩
      · simp only [List.take_succ_cons, List.take_zero]
        repeat (go_big_quiet_step ((first | (go_at_call 18; exact Calls.grew _ (hfrom_any _ _ _ _)))))
        exact wpQuiet_nil rfl
      apply Exists.intro
      apply Exists.intro
      refine ⟨by go_simp; exact ⟨rfl, rfl⟩, gr_alloc (gr_refl _) _, fun yt => ?_⟩
      simp only [List.drop_succ_cons, List.drop_zero]
      have hxt := xt.size_val
      simp at hxt
      have hyt := yt.size_val
      simp at hyt
      have bnew : Blk yt.val xt.val.heap.size #[.int .i64 (R k), .int .i64 (G k), .int .i64 (B k)] 54 := (by repeat (first | assumption | (refine Blk.at_ _ _ ?_; simp; done) | refine Blk.alloc ?_ _ | refine Blk.drew ?_ | refine Blk.ext ?_ _ | exact Blk.set (by assumption) _ _ | (refine Blk.other ?_ ?_ _; rotate_left; (simp <;> omega))))
      have bgr : Below w.heap.size w yt.val := by have := HBE.out; exact (by repeat (first | assumption | exact gr_refl _ | refine gr_alloc ?_ _ | refine gr_drew ?_ | refine gr_drewN ?_ _ | refine gr_ext ?_ _ | (refine gr_set ?_ ?_ _; rotate_left; (simp <;> omega))))
      have own2 : Own yt.val w.heap.size 54 3 (.slice A' k cap') ((List.range k).map (hueC R G B)) := (((HW.out.alloc _).ext xt).alloc _).ext yt
      have br : Blk yt.val (w.heap.size + 1) #[.int .i64 0, .int .i64 0, .slice none 0 0] 24 := by have := HR.out; exact (by repeat (first | assumption | (refine Blk.at_ _ _ ?_; simp; done) | refine Blk.alloc ?_ _ | refine Blk.drew ?_ | refine Blk.ext ?_ _ | exact Blk.set (by assumption) _ _ | (refine Blk.other ?_ ?_ _; rotate_left; (simp <;> omega))))
      have bo : Blk yt.val (w.heap.size + 1 + 1) #[.int .i64 W, .int .i64 H, .slice A' k cap'] 24 := by have := HO.out; exact (by repeat (first | assumption | (refine Blk.at_ _ _ ?_; simp; done) | refine Blk.alloc ?_ _ | refine Blk.drew ?_ | refine Blk.ext ?_ _ | exact Blk.set (by assumption) _ _ | (refine Blk.other ?_ ?_ _; rotate_left; (simp <;> omega))))
      go_wp2_with (at_builtin; refine own_append1 (w0 := w) rfl _ _ 22 rfl w.heap.size 54 (.agg #[.int .i64 0, .int .i64 0, .int .i64 0]) 3 24 Tryd.underlying22 (by kernel_rfl) rfl (by omega) _ _ rfl own2 xt.val.heap.size [.int .i64 (R k), .int .i64 (G k), .int .i64 (B k)] rfl bnew rfl (by intro u hu; simp at hu; rcases hu with rfl | rfl | rfl <;> rfl) (by simp; omega) (by omega) bgr (Nat.le_refl _) (by omega) ?_)
      intro v' w1 ho1 hb1 hg1
      have d0 : hueC R G B k = [.int .i64 (R k), .int .i64 (G k), .int .i64 (B k)] := rfl
      rw [← d0, ← map_range_succ] at ho1
      have br1 := br.grown hg1 (Ne.symm N2.out)
      have bo1 := bo.grown hg1 (Ne.symm N1.out)
      have lb1 := bo1.lt
      obtain ⟨A2, cap2, rfl, _, _, _⟩ := ho1.cells
      have n5 := ho1.ne_blk bo1 (by decide)
      have co1 := bo1.cell
      have fo1 := bo1.frozen
      have BR1 := Lib.hid br1
      have BO1 := Lib.hid bo1
      have HO1 := Lib.hid ho1
      have HB1 := Lib.hid hb1
      have N5 := Lib.hid n5
      simp only [List.length_map, List.length_range] at HO1 N5
      clear br1 bo1 ho1 hb1 hg1 n5 bnew bgr own2 br bo d0
      go_wp2
      go_roundw
      case rel =>
        refine ⟨k + 1, .slice A2 (k + 1) cap2, by omega, by go_num, gr_set HB1.out (by simp; omega) _, BR1.out.other (by simp) _, BO1.out.set _ _, HO1.out.other N5.out _⟩
      case measure => simp [intOf]; omega
    · obtain rfl : n = k := by omega
      obtain ⟨A', cap', rfl, hcap', _, _⟩ := hown.cells
      simp only [List.length_map, List.length_range] at hown hcap' hout
      have n2 := hown.ne_blk hres (by decide)
      have co := hout.cell
      have cr := hres.cell
      have fr := hres.frozen
      have HW := Lib.hid hown
      have N2 := Lib.hid n2
      clear hown n2
      go_wp2
      refine bodyPost_ret (v := .agg #[.int .i64 W, .int .i64 H, .slice A' n cap']) (by simp [results, Tryd.results13, go_sem, cr]) rfl ⟨_, rfl, ?_, ?_⟩
      · exact ((HW.out.other N2.out _).other N2.out _).other N2.out _
      · exact gr_set (gr_set (gr_set hb (by simp) _) (by simp) _) (by simp) _
end Go.Proofs.YtneegcnidoopmaaDoor
