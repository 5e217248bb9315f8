/- Contract of grade.Do: a step done to each light of a sheet. Conditions: the lights lie behind the slice. -/
import Derived.Test.YtneegcnidoopmaaCh
import Derived.Test.YtneegcnidoopmaaTs
namespace Go.Proofs.Ytneegcnidoopmaa
open Go.RowKit

def triOf (R G B : Nat → Int) (i : Nat) : Tri := ⟨R i, G i, B i⟩
/-- A sheet of the call's own, and no error. -/
def RetSheetOk (w : World) (T : Nat) (W H : Int) (n : Nat) (R G B : Nat → Int) (e : Ending) (w' : World) : Prop :=
  ∃ v, e = .returned (.tuple #[.agg #[.int .i64 W, .int .i64 H, v], .int .i64 0]) ∧ Own w' w.heap.size T 3 v ((List.range n).map (hueC R G B)) ∧ Below w.heap.size w w'
/-- No sheet, and an error. -/
def RetSheetBad (w : World) (e : Ending) (w' : World) : Prop := e = .returned (.tuple #[.agg #[.int .i64 0, .int .i64 0, .slice none 0 0], .int .i64 1]) ∧ Grew w w'

set_option maxHeartbeats 1000000 in
theorem do_bad (W H : Int) (A : Option Addr) (n cap : Nat) (v : Value) (w : World) (hp : picB W H n = false) :
    Calls Try.prog 32 #[.agg #[.int .i64 W, .int .i64 H, .slice A n cap], v] w (RetSheetBad w) := by
  have P := Lib.hid hp
  clear hp
  go_enter Try.func32, Try.ntmps32
  go_wp2_with (go_at_call 74; refine (sheet_right_any _ _ _ _ _ _).mono ?_; rintro e w' ⟨rfl, x1, rfl⟩; rw [P.out])
  have h1 := x1.size_val
  simp at h1
  refine bodyPost_ret (v := .tuple #[.agg #[.int .i64 0, .int .i64 0, .slice none 0 0], .int .i64 1]) (by simp [results, Try.results32, go_sem]) rfl ⟨rfl, Grew.of (by repeat (first | assumption | exact gr_refl _ | refine gr_alloc ?_ _ | refine gr_drew ?_ | refine gr_drewN ?_ _ | refine gr_ext ?_ _ | (refine gr_set ?_ ?_ _; rotate_left; (simp <;> omega))))⟩
set_option maxHeartbeats 1000000 in
theorem do_nil (W H : Int) (A : Option Addr) (n cap : Nat) (w : World) (hp : picB W H n = true) :
    Calls Try.prog 32 #[.agg #[.int .i64 W, .int .i64 H, .slice A n cap], .nilFunc] w (RetSheetBad w) := by
  have P := Lib.hid hp
  clear hp
  have hq1 : ∀ wz, (binOp .eql 69 .nilFunc .nilFunc).run Try.prog wz = .ok (.bool true) wz := fun wz => run_eql_nil_nil wz _ Try.underlying69
  go_enter Try.func32, Try.ntmps32
  go_wp2_with (go_at_call 74; refine (sheet_right_any _ _ _ _ _ _).mono ?_; rintro e w' ⟨rfl, x1, rfl⟩; rw [P.out])
  have h1 := x1.size_val
  simp at h1
  refine bodyPost_ret (v := .tuple #[.agg #[.int .i64 0, .int .i64 0, .slice none 0 0], .int .i64 1]) (by simp [results, Try.results32, go_sem]) rfl ⟨rfl, Grew.of (by repeat (first | assumption | exact gr_refl _ | refine gr_alloc ?_ _ | refine gr_drew ?_ | refine gr_drewN ?_ _ | refine gr_ext ?_ _ | (refine gr_set ?_ ?_ _; rotate_left; (simp <;> omega))))⟩

set_option maxRecDepth 100000 in
set_option maxHeartbeats 2000000 in
theorem do_any (f : Tri → Tri) (v : Value) (W H : Int) (A : Option Addr) (n cap : Nat) (R G B : Nat → Int) (w : World) (hp : picB W H n = true) (hc : CellsH w A n R G B) (hf : FuncAt w v f) :
    Calls Try.prog 32 #[.agg #[.int .i64 W, .int .i64 H, .slice A n cap], v] w (RetSheetOk w 151 W H n (fun i => (f (triOf R G B i)).r) (fun i => (f (triOf R G B i)).g) (fun i => (f (triOf R G B i)).b)) := by
  have hn := picB_len hp
  have P := Lib.hid hp
  have HC := Lib.hid hc
  obtain ⟨GF, caps, rfl, hent, hcall⟩ := hf
  have HCALL := Lib.hid hcall
  clear hp hc hcall
  have hq2 : ∀ wz, (binOp .eql 69 (.func (.func GF) #[] caps) .nilFunc).run Try.prog wz = .ok (.bool false) wz := fun wz => run_eql_func_nil wz _ _ _ _ Try.underlying69
  go_enter Try.func32, Try.ntmps32
  go_wp2_with fail
  refine (sheet_right_any _ _ _ _ _ _).mono ?_
  rintro e w' ⟨rfl, x0, rfl⟩
  rw [P.out]
  have hx0 := x0.size_val
  simp at hx0
  have lx0 : w.heap.size < x0.val.heap.size := by omega
  have lx1 : w.heap.size + 1 < x0.val.heap.size := by omega
  go_wp2
  go_loopw [23] (fun i wr => ∃ (k : Nat) (v : Value), k ≤ n ∧ i = .int .i64 k ∧ Below w.heap.size w wr ∧ Blk wr (w.heap.size + 1) #[.int .i64 0, .int .i64 0, .slice none 0 0] 73 ∧
      Blk wr x0.val.heap.size #[.int .i64 W, .int .i64 H, v] 73 ∧ Own wr w.heap.size 151 3 v ((List.range k).map (hueC (fun i => (f (triOf R G B i)).r) (fun i => (f (triOf R G B i)).g) (fun i => (f (triOf R G B i)).b)))) (fun i _ => n - (intOf i).toNat)
  case atStart => exact ⟨0, .slice none 0 0, by omega, rfl, (by repeat (first | assumption | exact gr_refl _ | refine gr_alloc ?_ _ | refine gr_drew ?_ | refine gr_drewN ?_ _ | refine gr_ext ?_ _ | (refine gr_set ?_ ?_ _; rotate_left; (simp <;> omega)))), (by repeat (first | assumption | (refine Blk.at_ _ _ ?_; simp; done) | refine Blk.alloc ?_ _ | refine Blk.drew ?_ | refine Blk.ext ?_ _ | exact Blk.set (by assumption) _ _ | (refine Blk.other ?_ ?_ _; rotate_left; (simp <;> omega)))), (by repeat (first | assumption | (refine Blk.at_ _ _ ?_; simp; done) | refine Blk.alloc ?_ _ | refine Blk.drew ?_ | refine Blk.ext ?_ _ | exact Blk.set (by assumption) _ _ | (refine Blk.other ?_ ?_ _; rotate_left; (simp <;> omega)))), Own.nil _ _ _ _⟩
  case round =>
    obtain ⟨k, v, hk, rfl, hb, hres, hout, hown⟩ := hrel
    have l2 := hres.lt
    have l3 := hout.lt
    by_cases hlt : k < n
    · obtain ⟨b, off, rfl, hcell⟩ := HC.out (by omega)
      obtain ⟨q0, q1, q2⟩ := hcell k hlt
      have c0 := cell_later hb q0
      have c1 := cell_later hb q1
      have c2 := cell_later hb q2
      have lb : b < wr.heap.size := World.block_lt_of_cell? _ _ c0
      obtain ⟨A', cap', rfl, hcap', _, _⟩ := hown.cells
      simp only [List.length_map, List.length_range] at hown hcap' hout
      have co := hout.cell 2
      simp at co
      have HR := Lib.hid hres
      have HO := Lib.hid hout
      have HW := Lib.hid hown
      have HBE := Lib.hid hb
      have n1 := hown.ne_blk hout (by decide)
      have n2 := hown.ne_blk hres (by decide)
      have N1 := Lib.hid n1
      have N2 := Lib.hid n2
      clear hcell q0 q1 q2 hres hout hown hb n1 n2
      have l3s : x0.val.heap.size < wr.heap.size + 1 := by omega
      obtain ⟨wo, rfl⟩ : ∃ wo : World, wo = wr := ⟨_, rfl⟩
      have CALLS : ∀ wz, Below w.heap.size w wz → Calls Try.prog GF (#[.agg #[.int .i64 (R k), .int .i64 (G k), .int .i64 (B k)]] ++ caps) wz fun e w'' => e = .returned (.agg #[.int .i64 (f ⟨R k, G k, B k⟩).r, .int .i64 (f ⟨R k, G k, B k⟩).g, .int .i64 (f ⟨R k, G k, B k⟩).b]) ∧ Grew wz w'' := fun wz hz => HCALL.out wz ⟨R k, G k, B k⟩ hz
      have CALL2 := Lib.hid CALLS
      clear CALLS
      go_wp2
      refine wp_region_earlyX 5 (by kernel_rfl) (by kernel_rfl) (by kernel_rfl) _ rfl rfl ?_
      apply Exists.intro
      refine ⟨fun xh => ?_, fun xt => ?_⟩
      · simp only [List.take_succ_cons, List.take_zero]
        repeat (go_big_quiet_step ((exact Calls.grew _ (CALL2.out _ (by have := HBE.out; exact (by repeat (first | assumption | exact gr_refl _ | refine gr_alloc ?_ _ | refine gr_drew ?_ | refine gr_drewN ?_ _ | refine gr_ext ?_ _ | (refine gr_set ?_ ?_ _; rotate_left; (simp <;> omega)))))))))
        exact wpQuiet_nil rfl
      apply Exists.intro
      apply Exists.intro
      refine ⟨by go_simp; exact ⟨rfl, rfl⟩, gr_alloc (gr_refl _) _, fun yt => ?_⟩
      simp only [List.drop_succ_cons, List.drop_zero]
      have hxt := xt.size_val
      simp at hxt
      have hyt := yt.size_val
      simp at hyt
      have bnew : Blk yt.val xt.val.heap.size #[.int .i64 (f ⟨R k, G k, B k⟩).r, .int .i64 (f ⟨R k, G k, B k⟩).g, .int .i64 (f ⟨R k, G k, B k⟩).b] 151 := (by repeat (first | assumption | (refine Blk.at_ _ _ ?_; simp; done) | refine Blk.alloc ?_ _ | refine Blk.drew ?_ | refine Blk.ext ?_ _ | exact Blk.set (by assumption) _ _ | (refine Blk.other ?_ ?_ _; rotate_left; (simp <;> omega))))
      have bgr : Below w.heap.size w yt.val := by have := HBE.out; exact (by repeat (first | assumption | exact gr_refl _ | refine gr_alloc ?_ _ | refine gr_drew ?_ | refine gr_drewN ?_ _ | refine gr_ext ?_ _ | (refine gr_set ?_ ?_ _; rotate_left; (simp <;> omega))))
      have own2 : Own yt.val w.heap.size 151 3 (.slice A' k cap') ((List.range k).map (hueC (fun i => (f (triOf R G B i)).r) (fun i => (f (triOf R G B i)).g) (fun i => (f (triOf R G B i)).b))) := (((HW.out.alloc _).ext xt).alloc _).ext yt
      have br : Blk yt.val (w.heap.size + 1) #[.int .i64 0, .int .i64 0, .slice none 0 0] 73 := by have := HR.out; exact (by repeat (first | assumption | (refine Blk.at_ _ _ ?_; simp; done) | refine Blk.alloc ?_ _ | refine Blk.drew ?_ | refine Blk.ext ?_ _ | exact Blk.set (by assumption) _ _ | (refine Blk.other ?_ ?_ _; rotate_left; (simp <;> omega))))
      have bo : Blk yt.val x0.val.heap.size #[.int .i64 W, .int .i64 H, .slice A' k cap'] 73 := by have := HO.out; exact (by repeat (first | assumption | (refine Blk.at_ _ _ ?_; simp; done) | refine Blk.alloc ?_ _ | refine Blk.drew ?_ | refine Blk.ext ?_ _ | exact Blk.set (by assumption) _ _ | (refine Blk.other ?_ ?_ _; rotate_left; (simp <;> omega))))
      go_wp2_with (at_builtin; refine own_append1 (w0 := w) rfl _ _ 71 rfl w.heap.size 151 (.agg #[.int .i64 0, .int .i64 0, .int .i64 0]) 3 24 Try.underlying71 (by kernel_rfl) rfl (by omega) _ _ rfl own2 xt.val.heap.size [.int .i64 (f ⟨R k, G k, B k⟩).r, .int .i64 (f ⟨R k, G k, B k⟩).g, .int .i64 (f ⟨R k, G k, B k⟩).b] rfl bnew rfl (by intro u hu; simp at hu; rcases hu with rfl | rfl | rfl <;> rfl) (by simp; omega) (by omega) bgr (Nat.le_refl _) (by omega) ?_)
      intro v' w1 ho1 hb1 hg1
      have d0 : hueC (fun i => (f (triOf R G B i)).r) (fun i => (f (triOf R G B i)).g) (fun i => (f (triOf R G B i)).b) k = [.int .i64 (f ⟨R k, G k, B k⟩).r, .int .i64 (f ⟨R k, G k, B k⟩).g, .int .i64 (f ⟨R k, G k, B k⟩).b] := rfl
      rw [← d0, ← map_range_succ] at ho1
      have br1 := br.grown hg1 (Ne.symm N2.out)
      have bo1 := bo.grown hg1 (Ne.symm N1.out)
      have lb1 := bo1.lt
      obtain ⟨A2, cap2, rfl, _, _, _⟩ := ho1.cells
      have n5 := ho1.ne_blk bo1 (by decide)
      have co1 := bo1.cell
      have fo1 := bo1.frozen
      have BR1 := Lib.hid br1
      have BO1 := Lib.hid bo1
      have HO1 := Lib.hid ho1
      have HB1 := Lib.hid hb1
      have N5 := Lib.hid n5
      simp only [List.length_map, List.length_range] at HO1 N5
      clear br1 bo1 ho1 hb1 hg1 n5 bnew bgr own2 br bo d0
      go_wp2
      go_roundw
      case rel =>
        refine ⟨k + 1, .slice A2 (k + 1) cap2, by omega, by go_num, gr_set HB1.out (by simp; omega) _, BR1.out.other (by simp; omega) _, BO1.out.set _ _, HO1.out.other N5.out _⟩
      case measure => simp [intOf]; omega
    · obtain rfl : n = k := by omega
      obtain ⟨A', cap', rfl, hcap', _, _⟩ := hown.cells
      simp only [List.length_map, List.length_range] at hown hcap' hout
      have n2 := hown.ne_blk hres (by decide)
      have co := hout.cell
      have cr := hres.cell
      have fr := hres.frozen
      have HW := Lib.hid hown
      have N2 := Lib.hid n2
      clear hown n2
      go_wp2
      refine bodyPost_ret (v := .tuple #[.agg #[.int .i64 W, .int .i64 H, .slice A' n cap'], .int .i64 0]) (by simp [results, Try.results32, go_sem, cr, co]) rfl ⟨_, rfl, ?_, ?_⟩
      · exact ((HW.out.other N2.out _).other N2.out _).other N2.out _
      · exact gr_set (gr_set (gr_set hb (by simp) _) (by simp) _) (by simp) _
end Go.Proofs.Ytneegcnidoopmaa
