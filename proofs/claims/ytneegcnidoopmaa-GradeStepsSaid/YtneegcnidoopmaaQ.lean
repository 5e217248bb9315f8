/- Contract of (grade.Table).Apply: a picture through a table. Conditions: the dots lie behind the slice and are bytes; the table's entries are bytes. -/
import Derived.Test.YtneegcnidoopmaaP
import Derived.Test.YtneegcnidoopmaaN
import Derived.Test.YtneegcnidoopmaaQe
namespace Go.Proofs.Ytneegcnidoopmaa
open Go.RowKit

def through (f : Nat → Int) (R : Nat → Int) (i : Nat) : Int := f (R i).toNat
/-- A picture of the call's own, and no error. -/
def RetPicOk (w : World) (T : Nat) (W H : Int) (n : Nat) (R G B : Nat → Int) (e : Ending) (w' : World) : Prop :=
  ∃ v, e = .returned (.tuple #[.agg #[.int .i64 W, .int .i64 H, v], .int .i64 0]) ∧ Own w' w.heap.size T 3 v ((List.range n).map (dotC R G B)) ∧ Below w.heap.size w w'

set_option maxRecDepth 100000 in
set_option maxHeartbeats 2000000 in
theorem apply_any (f : Nat → Int) (W H : Int) (A : Option Addr) (n cap : Nat) (R G B : Nat → Int) (w : World) (hp : picB W H n = true) (hc : Cells3 w A n R G B) (hB : Bytes3 R G B n) :
    Calls Try.prog 22 #[.agg (tab f), .agg #[.int .i64 W, .int .i64 H, .slice A n cap]] w (RetPicOk w 133 W H n (through f R) (through f G) (through f B)) := by
  have hn := picB_len hp
  have P := Lib.hid hp
  have HC := Lib.hid hc
  have HB := Lib.hid hB
  clear hp hc hB
  go_enter Try.func22, Try.ntmps22
  go_wp2_with (go_at_call 61; refine (pic_right_any _ _ _ _ _ _).mono ?_; rintro e w' ⟨rfl, x0, rfl⟩; rw [P.out])
  have hx0 := x0.size_val
  simp at hx0
  go_loopw [19] (fun i wr => ∃ (k : Nat) (v : Value), k ≤ n ∧ i = .int .i64 k ∧ Below w.heap.size w wr ∧ Blk wr w.heap.size (tab f) 39 ∧ Blk wr (w.heap.size + 1 + 1) #[.int .i64 0, .int .i64 0, .slice none 0 0] 46 ∧
      Blk wr x0.val.heap.size #[.int .i64 W, .int .i64 H, v] 46 ∧ Own wr w.heap.size 133 3 v ((List.range k).map (dotC (through f R) (through f G) (through f B)))) (fun i _ => n - (intOf i).toNat)
  case atStart => exact ⟨0, .slice none 0 0, by omega, rfl, (by repeat (first | assumption | exact gr_refl _ | refine gr_alloc ?_ _ | refine gr_drew ?_ | refine gr_drewN ?_ _ | refine gr_ext ?_ _ | (refine gr_set ?_ ?_ _; rotate_left; (simp <;> omega)))), (by repeat (first | assumption | (refine Blk.at_ _ _ ?_; simp; done) | refine Blk.alloc ?_ _ | refine Blk.drew ?_ | refine Blk.ext ?_ _ | exact Blk.set (by assumption) _ _ | (refine Blk.other ?_ ?_ _; rotate_left; (simp <;> omega)))), (by repeat (first | assumption | (refine Blk.at_ _ _ ?_; simp; done) | refine Blk.alloc ?_ _ | refine Blk.drew ?_ | refine Blk.ext ?_ _ | exact Blk.set (by assumption) _ _ | (refine Blk.other ?_ ?_ _; rotate_left; (simp <;> omega)))), (by repeat (first | assumption | (refine Blk.at_ _ _ ?_; simp; done) | refine Blk.alloc ?_ _ | refine Blk.drew ?_ | refine Blk.ext ?_ _ | exact Blk.set (by assumption) _ _ | (refine Blk.other ?_ ?_ _; rotate_left; (simp <;> omega)))), Own.nil _ _ _ _⟩
  case round =>
    obtain ⟨k, v, hk, rfl, hb, htab, hres, hout, hown⟩ := hrel
    have l1 := htab.lt
    have l2 := hres.lt
    have l3 := hout.lt
    by_cases hlt : k < n
    · obtain ⟨b, off, rfl, hcell⟩ := HC.out (by omega)
      obtain ⟨q0, q1, q2⟩ := hcell k hlt
      have c0 := cell_later hb q0
      have c1 := cell_later hb q1
      have c2 := cell_later hb q2
      have lb : b < wr.heap.size := World.block_lt_of_cell? _ _ c0
      obtain ⟨r1, r2, r3, r4, r5, r6⟩ := HB.out k hlt
      obtain ⟨qr, hqr⟩ : ∃ q : Nat, R k = q := ⟨(R k).toNat, by omega⟩
      obtain ⟨qg, hqg⟩ : ∃ q : Nat, G k = q := ⟨(G k).toNat, by omega⟩
      obtain ⟨qb, hqb⟩ : ∃ q : Nat, B k = q := ⟨(B k).toNat, by omega⟩
      have d0 : dotC (through f R) (through f G) (through f B) k = [.int .u8 (f qr), .int .u8 (f qg), .int .u8 (f qb)] := by unfold dotC through; rw [hqr, hqg, hqb]; rfl
      rw [hqr] at c0 r1 r2
      rw [hqg] at c1 r3 r4
      rw [hqb] at c2 r5 r6
      have t0 : wr.cell? ⟨w.heap.size, qr, none⟩ = some (.int .u8 (f qr)) := by rw [htab.cell, tab_get _ (by omega)]
      have t1 : wr.cell? ⟨w.heap.size, qg, none⟩ = some (.int .u8 (f qg)) := by rw [htab.cell, tab_get _ (by omega)]
      have t2 : wr.cell? ⟨w.heap.size, qb, none⟩ = some (.int .u8 (f qb)) := by rw [htab.cell, tab_get _ (by omega)]
      have D0 := Lib.hid d0
      clear d0 hqr hqg hqb hcell q0 q1 q2
      obtain ⟨A', cap', rfl, hcap', _, _⟩ := hown.cells
      simp only [List.length_map, List.length_range] at hown hcap' hout
      have co := hout.cell 2
      simp at co
      have HT := Lib.hid htab
      have HR := Lib.hid hres
      have HO := Lib.hid hout
      have HW := Lib.hid hown
      have HBE := Lib.hid hb
      have n1 := hown.ne_blk hout (by decide)
      have n2 := hown.ne_blk hres (by decide)
      have n3 := hown.ne_blk htab (by decide)
      have n4 : (Value.slice A' k cap').ownBlock ≠ some wr.heap.size := fun e => by have := (hown.row.lt _ e).2; omega
      have N4 := Lib.hid n4
      have b0 : (qr : Int) < 256 := by omega
      have b1 : (qg : Int) < 256 := by omega
      have b2 : (qb : Int) < 256 := by omega
      have N1 := Lib.hid n1
      have N2 := Lib.hid n2
      have N3 := Lib.hid n3
      clear htab hres hout hown hb n1 n2 n3 n4
      have l1s : w.heap.size < wr.heap.size + 1 := by omega
      have l3s : x0.val.heap.size < wr.heap.size + 1 := by omega
      obtain ⟨wo, rfl⟩ : ∃ wo : World, wo = wr := ⟨_, rfl⟩
      go_wp2
      refine wp_region_earlyX 15 (by kernel_rfl) (by kernel_rfl) (by kernel_rfl) _ rfl rfl ?_
      apply Exists.intro
      refine ⟨fun xh => ?_, fun xt => ?_⟩
      · simp only [List.take_succ_cons, List.take_zero]
        repeat (go_big_quiet_step (fail))
        exact wpQuiet_nil rfl
      apply Exists.intro
      apply Exists.intro
      refine ⟨by go_simp; exact ⟨rfl, rfl⟩, gr_alloc (gr_refl _) _, fun yt => ?_⟩
      simp only [List.drop_succ_cons, List.drop_zero]
      have hxt := xt.size_val
      simp at hxt
      have hyt := yt.size_val
      simp at hyt
      have bnew : Blk yt.val xt.val.heap.size #[.int .u8 (f qr), .int .u8 (f qg), .int .u8 (f qb)] 133 := (by repeat (first | assumption | (refine Blk.at_ _ _ ?_; simp; done) | refine Blk.alloc ?_ _ | refine Blk.drew ?_ | refine Blk.ext ?_ _ | exact Blk.set (by assumption) _ _ | (refine Blk.other ?_ ?_ _; rotate_left; (simp <;> omega))))
      have bgr : Below w.heap.size w yt.val := by have := HBE.out; exact (by repeat (first | assumption | exact gr_refl _ | refine gr_alloc ?_ _ | refine gr_drew ?_ | refine gr_drewN ?_ _ | refine gr_ext ?_ _ | (refine gr_set ?_ ?_ _; rotate_left; (simp <;> omega))))
      have own2 : Own yt.val w.heap.size 133 3 (.slice A' k cap') ((List.range k).map (dotC (through f R) (through f G) (through f B))) := (((HW.out.alloc _).ext xt).alloc _).ext yt
      have bt : Blk yt.val w.heap.size (tab f) 39 := by have := HT.out; exact (by repeat (first | assumption | (refine Blk.at_ _ _ ?_; simp; done) | refine Blk.alloc ?_ _ | refine Blk.drew ?_ | refine Blk.ext ?_ _ | exact Blk.set (by assumption) _ _ | (refine Blk.other ?_ ?_ _; rotate_left; (simp <;> omega))))
      have br : Blk yt.val (w.heap.size + 1 + 1) #[.int .i64 0, .int .i64 0, .slice none 0 0] 46 := by have := HR.out; exact (by repeat (first | assumption | (refine Blk.at_ _ _ ?_; simp; done) | refine Blk.alloc ?_ _ | refine Blk.drew ?_ | refine Blk.ext ?_ _ | exact Blk.set (by assumption) _ _ | (refine Blk.other ?_ ?_ _; rotate_left; (simp <;> omega))))
      have bo : Blk yt.val x0.val.heap.size #[.int .i64 W, .int .i64 H, .slice A' k cap'] 46 := by have := HO.out; exact (by repeat (first | assumption | (refine Blk.at_ _ _ ?_; simp; done) | refine Blk.alloc ?_ _ | refine Blk.drew ?_ | refine Blk.ext ?_ _ | exact Blk.set (by assumption) _ _ | (refine Blk.other ?_ ?_ _; rotate_left; (simp <;> omega))))
      go_wp2_with (at_builtin; refine own_append1 (w0 := w) rfl _ _ 34 rfl w.heap.size 133 (.agg #[.int .u8 0, .int .u8 0, .int .u8 0]) 3 3 Try.underlying34 (by kernel_rfl) rfl (by omega) _ _ rfl own2 xt.val.heap.size [.int .u8 (f qr), .int .u8 (f qg), .int .u8 (f qb)] rfl bnew rfl (by intro u hu; simp at hu; rcases hu with rfl | rfl | rfl <;> rfl) (by simp; omega) (by omega) bgr (Nat.le_refl _) (by omega) ?_)
      intro v' w1 ho1 hb1 hg1
      rw [← D0.out, ← map_range_succ] at ho1
      have bt1 := bt.grown hg1 (Ne.symm N3.out)
      have br1 := br.grown hg1 (Ne.symm N2.out)
      have bo1 := bo.grown hg1 (Ne.symm N1.out)
      have lb1 := bo1.lt
      obtain ⟨A2, cap2, rfl, _, _, _⟩ := ho1.cells
      have n5 := ho1.ne_blk bo1 (by decide)
      have co1 := bo1.cell
      have fo1 := bo1.frozen
      have BT1 := Lib.hid bt1
      have BR1 := Lib.hid br1
      have BO1 := Lib.hid bo1
      have HO1 := Lib.hid ho1
      have HB1 := Lib.hid hb1
      have N5 := Lib.hid n5
      simp only [List.length_map, List.length_range] at HO1 N5
      clear bt1 br1 bo1 ho1 hb1 hg1 n5 bnew bgr own2 bt br bo
      go_wp2
      go_roundw
      case rel =>
        refine ⟨k + 1, .slice A2 (k + 1) cap2, by omega, by go_num, gr_set HB1.out (by simp; omega) _, BT1.out.other (by simp; omega) _, BR1.out.other (by simp; omega) _, BO1.out.set _ _, HO1.out.other N5.out _⟩
      case measure => simp [intOf]; omega
    · obtain rfl : n = k := by omega
      obtain ⟨A', cap', rfl, hcap', _, _⟩ := hown.cells
      simp only [List.length_map, List.length_range] at hown hcap' hout
      have n2 := hown.ne_blk hres (by decide)
      have co := hout.cell
      have cr := hres.cell
      have fr := hres.frozen
      have HW := Lib.hid hown
      have N2 := Lib.hid n2
      clear hown n2
      go_wp2
      refine bodyPost_ret (v := .tuple #[.agg #[.int .i64 W, .int .i64 H, .slice A' n cap'], .int .i64 0]) (by simp [results, Try.results22, go_sem, cr, co]) rfl ⟨_, rfl, ?_, ?_⟩
      · exact ((HW.out.other N2.out _).other N2.out _).other N2.out _
      · exact gr_set (gr_set (gr_set hb (by simp; omega) _) (by simp; omega) _) (by simp; omega) _
end Go.Proofs.Ytneegcnidoopmaa
