/- Contract of ref20.Level: a sheet, smoothed once. Conditions: the rows lie behind their slices. -/
import Derived.Test.YtneegcnidoopmaaDoorLj
import Derived.Test.YtneegcnidoopmaaDoorLf
namespace Go.Proofs.YtneegcnidoopmaaDoor
open Go.RowKit

set_option maxRecDepth 100000 in
set_option maxHeartbeats 4000000 in
theorem rlevel_bad (W H : Int) (AL AD AN AB AS AF : Option Addr) (nL cL nD cD nN cN nB cB nS cS nF cF : Nat) (S F : Nat → Int) (W2 H2 : Int) (A2 : Option Addr) (n2 c2 : Nat) (lv : Int) (w : World) (hS : CellsI w AS nS S) (hF : CellsI w AF nF F) (hno : ¬ LevOk W H nL nD nN nB nS nF S F W2 H2 n2 lv) :
    Calls Tryd.prog 11 #[.agg #[.int .i64 W, .int .i64 H, .slice AL nL cL, .slice AD nD cD, .slice AN nN cN, .slice AB nB cB, .slice AS nS cS, .slice AF nF cF], .agg #[.int .i64 W2, .int .i64 H2, .slice A2 n2 c2], .int .i64 lv] w (RetLevBad w) := by
  have HS := Lib.hid hS
  have HF := Lib.hid hF
  have NO := Lib.hid hno
  clear hS hF hno
  cases h1 : filmB W H nL nD nN nB nS nF S F with
  | false =>
    have H1 := Lib.hid h1
    clear h1
    go_enter Tryd.func11, Tryd.ntmps11
    go_wp2_with fail
    refine (rfilm_right_any W H AL AD AN AB AS AF nL cL nD cD nN cN nB cB nS cS nF cF S F _ (HS.out.below (by repeat (first | assumption | exact gr_refl _ | refine gr_alloc ?_ _ | refine gr_drew ?_ | refine gr_drewN ?_ _ | refine gr_ext ?_ _ | (refine gr_set ?_ ?_ _; rotate_left; (simp <;> omega))))) (HF.out.below (by repeat (first | assumption | exact gr_refl _ | refine gr_alloc ?_ _ | refine gr_drew ?_ | refine gr_drewN ?_ _ | refine gr_ext ?_ _ | (refine gr_set ?_ ?_ _; rotate_left; (simp <;> omega)))))).mono ?_
    rintro e w' ⟨rfl, x1, rfl⟩
    rw [H1.out]
    have s1 := x1.size_val
    simp at s1
    have l1 : w.heap.size < x1.val.heap.size := by omega
    have l2 : w.heap.size + 1 < x1.val.heap.size := by omega
    have l3 : w.heap.size + 1 + 1 < x1.val.heap.size := by omega
    go_wp2
    refine bodyPost_ret (v := .tuple #[.agg #[.int .i64 0, .int .i64 0, .slice none 0 0], .int .i64 1]) (by simp [results, Tryd.results11, go_sem]) rfl ⟨rfl, Grew.of (by repeat (first | assumption | exact gr_refl _ | refine gr_alloc ?_ _ | refine gr_drew ?_ | refine gr_drewN ?_ _ | refine gr_ext ?_ _ | (refine gr_set ?_ ?_ _; rotate_left; (simp <;> omega))))⟩
  | true =>
    have H1 := Lib.hid h1
    clear h1
    cases h2 : picB W2 H2 n2 with
    | false =>
      have HB2 := Lib.hid h2
      clear h2
      go_enter Tryd.func11, Tryd.ntmps11
      go_wp2_with fail
      refine (rfilm_right_any W H AL AD AN AB AS AF nL cL nD cD nN cN nB cB nS cS nF cF S F _ (HS.out.below (by repeat (first | assumption | exact gr_refl _ | refine gr_alloc ?_ _ | refine gr_drew ?_ | refine gr_drewN ?_ _ | refine gr_ext ?_ _ | (refine gr_set ?_ ?_ _; rotate_left; (simp <;> omega))))) (HF.out.below (by repeat (first | assumption | exact gr_refl _ | refine gr_alloc ?_ _ | refine gr_drew ?_ | refine gr_drewN ?_ _ | refine gr_ext ?_ _ | (refine gr_set ?_ ?_ _; rotate_left; (simp <;> omega)))))).mono ?_
      rintro e w' ⟨rfl, x1, rfl⟩
      rw [H1.out]
      have s1 := x1.size_val
      simp at s1
      have l1 : w.heap.size < x1.val.heap.size := by omega
      have l2 : w.heap.size + 1 < x1.val.heap.size := by omega
      have l3 : w.heap.size + 1 + 1 < x1.val.heap.size := by omega
      go_wp2_with fail
      refine (rsheet_right_any _ _ _ _ _ _).mono ?_
      rintro e w' ⟨rfl, x2, rfl⟩
      rw [HB2.out]
      have s2 := x2.size_val
      have l4 : w.heap.size < x2.val.heap.size := by omega
      have l5 : w.heap.size + 1 < x2.val.heap.size := by omega
      have l6 : w.heap.size + 1 + 1 < x2.val.heap.size := by omega
      go_wp2
      refine bodyPost_ret (v := .tuple #[.agg #[.int .i64 0, .int .i64 0, .slice none 0 0], .int .i64 1]) (by simp [results, Tryd.results11, go_sem, l3]) rfl ⟨rfl, Grew.of (by repeat (first | assumption | exact gr_refl _ | refine gr_alloc ?_ _ | refine gr_drew ?_ | refine gr_drewN ?_ _ | refine gr_ext ?_ _ | (refine gr_set ?_ ?_ _; rotate_left; (simp <;> omega))))⟩
    | true =>
      have H2' := Lib.hid h2
      clear h2
      go_enter Tryd.func11, Tryd.ntmps11
      go_wp2_with fail
      refine (rfilm_right_any W H AL AD AN AB AS AF nL cL nD cD nN cN nB cB nS cS nF cF S F _ (HS.out.below (by repeat (first | assumption | exact gr_refl _ | refine gr_alloc ?_ _ | refine gr_drew ?_ | refine gr_drewN ?_ _ | refine gr_ext ?_ _ | (refine gr_set ?_ ?_ _; rotate_left; (simp <;> omega))))) (HF.out.below (by repeat (first | assumption | exact gr_refl _ | refine gr_alloc ?_ _ | refine gr_drew ?_ | refine gr_drewN ?_ _ | refine gr_ext ?_ _ | (refine gr_set ?_ ?_ _; rotate_left; (simp <;> omega)))))).mono ?_
      rintro e w' ⟨rfl, x1, rfl⟩
      rw [H1.out]
      have s1 := x1.size_val
      simp at s1
      have l1 : w.heap.size < x1.val.heap.size := by omega
      have l2 : w.heap.size + 1 < x1.val.heap.size := by omega
      have l3 : w.heap.size + 1 + 1 < x1.val.heap.size := by omega
      go_wp2_with fail
      refine (rsheet_right_any _ _ _ _ _ _).mono ?_
      rintro e w' ⟨rfl, x2, rfl⟩
      rw [H2'.out]
      have s2 := x2.size_val
      have l4 : w.heap.size < x2.val.heap.size := by omega
      have l5 : w.heap.size + 1 < x2.val.heap.size := by omega
      have l6 : w.heap.size + 1 + 1 < x2.val.heap.size := by omega
      go_wp2
      all_goals first
        | (exfalso; exact NO.out ⟨H1.out, H2'.out, by assumption, by assumption, by omega, by omega⟩)
        | (refine bodyPost_ret (v := .tuple #[.agg #[.int .i64 0, .int .i64 0, .slice none 0 0], .int .i64 1]) (by simp [results, Tryd.results11, go_sem, l3]) rfl ⟨rfl, Grew.of (by repeat (first | assumption | exact gr_refl _ | refine gr_alloc ?_ _ | refine gr_drew ?_ | refine gr_drewN ?_ _ | refine gr_ext ?_ _ | (refine gr_set ?_ ?_ _; rotate_left; (simp <;> omega))))⟩)

theorem at_xy {e : Env} {Wn xn yn : Nat} (hW : e.W = Wn) (hx : xn < Wn) : e.at (yn * Wn + xn) = e.px (yn * Wn + xn) xn yn := by
  unfold Env.at
  rw [hW, ← Int.natCast_emod, ← Int.natCast_ediv]
  have h1 : (yn * Wn + xn) % Wn = xn := by rw [Nat.mul_comm, Nat.mul_add_mod, Nat.mod_eq_of_lt hx]
  have h2 : (yn * Wn + xn) / Wn = yn := by rw [Nat.mul_comm, Nat.mul_add_div (by omega), Nat.div_eq_of_lt hx, Nat.add_zero]
  rw [h1, h2]
set_option maxRecDepth 100000 in
set_option maxHeartbeats 8000000 in
theorem rlevel_any (e : Env) (hl : e.l ≤ 4) (S F : Nat → Int) (hf : e.f.sh = S) (AL AD AN AB AS AF A2 : Option Addr) (nL cL cD cN cB cS cF c2 n : Nat) (w : World) (hok : filmB e.W e.H nL n n n n n S F = true) (hp : picB e.W e.H n = true)
    (hS : CellsI w AS n S) (hF : CellsI w AF n F) (hD : CellsI w AD n e.f.d) (hN : CellsH w AN n e.f.nx e.f.ny e.f.nz) (hL : CellsH w A2 n e.R e.G e.B) :
    Calls Tryd.prog 11 #[.agg #[.int .i64 e.W, .int .i64 e.H, .slice AL nL cL, .slice AD n cD, .slice AN n cN, .slice AB n cB, .slice AS n cS, .slice AF n cF], .agg #[.int .i64 e.W, .int .i64 e.H, .slice A2 n c2], .int .i64 e.l] w
      (RetLev w 54 e.W e.H n (fun i => (e.at i).1) (fun i => (e.at i).2.1) (fun i => (e.at i).2.2)) := by
  have hn := picB_len hp
  obtain ⟨hsz, hnn⟩ := picB_out hp
  have hsb := sizeB_out hsz
  obtain ⟨Wn, hWn⟩ : ∃ Wn : Nat, e.W = Wn := ⟨e.W.toNat, by omega⟩
  obtain ⟨Hn, hHn⟩ : ∃ Hn : Nat, e.H = Hn := ⟨e.H.toNat, by omega⟩
  have hnw : n = Wn * Hn := by
    have : (n : Int) = ((Wn * Hn : Nat) : Int) := by rw [Int.natCast_mul, ← hWn, ← hHn]; exact hnn
    omega
  have b1 : 1 ≤ Wn := by omega
  have b2 : Wn ≤ 64 := by omega
  have b3 : 1 ≤ Hn := by omega
  have b4 : Hn ≤ 64 := by omega
  have HS := Lib.hid hS
  have HF := Lib.hid hF
  have HD := Lib.hid hD
  have HN := Lib.hid hN
  have HL := Lib.hid hL
  have H1 := Lib.hid hok
  have H2 := Lib.hid hp
  have HFS := Lib.hid hf
  have HSZ := Lib.hid hsz
  have HNN := Lib.hid hnn
  have HWN := Lib.hid hWn
  have HHN := Lib.hid hHn
  have HNW := Lib.hid hnw
  have dl0 : decide ((e.l : Int) < 0) = false := decide_eq_false (by omega)
  have dl5 : decide (5 ≤ (e.l : Int)) = false := decide_eq_false (by omega)
  clear hS hF hD hN hL hok hp hf hsz hnn hnw hsb hWn hHn
  go_enter Tryd.func11, Tryd.ntmps11
  go_wp2_with fail
  refine (rfilm_right_any e.W e.H AL AD AN AB AS AF nL cL n cD n cN n cB n cS n cF S F _ (HS.out.below (by repeat (first | assumption | exact gr_refl _ | refine gr_alloc ?_ _ | refine gr_drew ?_ | refine gr_drewN ?_ _ | refine gr_ext ?_ _ | (refine gr_set ?_ ?_ _; rotate_left; (simp <;> omega))))) (HF.out.below (by repeat (first | assumption | exact gr_refl _ | refine gr_alloc ?_ _ | refine gr_drew ?_ | refine gr_drewN ?_ _ | refine gr_ext ?_ _ | (refine gr_set ?_ ?_ _; rotate_left; (simp <;> omega)))))).mono ?_
  rintro en w' ⟨rfl, x1, rfl⟩
  rw [H1.out]
  have s1 := x1.size_val
  simp at s1
  have l1 : w.heap.size < x1.val.heap.size := by omega
  have l2 : w.heap.size + 1 < x1.val.heap.size := by omega
  have l3 : w.heap.size + 1 + 1 < x1.val.heap.size := by omega
  go_wp2_with fail
  refine (rsheet_right_any _ _ _ _ _ _).mono ?_
  rintro en w' ⟨rfl, x2, rfl⟩
  rw [H2.out]
  have s2 := x2.size_val
  have l4 : w.heap.size < x2.val.heap.size := by omega
  have l5 : w.heap.size + 1 < x2.val.heap.size := by omega
  have l6 : w.heap.size + 1 + 1 < x2.val.heap.size := by omega
  go_wp2
  go_loopw [9] (fun i wr => ∃ (yn : Nat) (v : Value), yn ≤ Hn ∧ i = .int .i64 yn ∧ Below w.heap.size w wr ∧ Blk wr w.heap.size #[.int .i64 e.W, .int .i64 e.H, .slice AL nL cL, .slice AD n cD, .slice AN n cN, .slice AB n cB, .slice AS n cS, .slice AF n cF] 29 ∧ Blk wr (w.heap.size + 1) #[.int .i64 e.W, .int .i64 e.H, .slice A2 n c2] 24 ∧ Blk wr (w.heap.size + 1 + 1) #[.int .i64 0, .int .i64 0, .slice none 0 0] 24 ∧
      Blk wr x2.val.heap.size #[.int .i64 e.W, .int .i64 e.H, v] 24 ∧ Own wr w.heap.size 54 3 v ((List.range (yn * Wn)).map (hueC (fun i => (e.at i).1) (fun i => (e.at i).2.1) (fun i => (e.at i).2.2)))) (fun i _ => Hn - (intOf i).toNat)
  case atStart => exact ⟨0, .slice none 0 0, by omega, rfl, (by repeat (first | assumption | exact gr_refl _ | refine gr_alloc ?_ _ | refine gr_drew ?_ | refine gr_drewN ?_ _ | refine gr_ext ?_ _ | (refine gr_set ?_ ?_ _; rotate_left; (simp <;> omega)))), (by repeat (first | assumption | (refine Blk.at_ _ _ ?_; simp; done) | refine Blk.alloc ?_ _ | refine Blk.drew ?_ | refine Blk.ext ?_ _ | exact Blk.set (by assumption) _ _ | (refine Blk.other ?_ ?_ _; rotate_left; (simp <;> omega)))), (by repeat (first | assumption | (refine Blk.at_ _ _ ?_; simp; done) | refine Blk.alloc ?_ _ | refine Blk.drew ?_ | refine Blk.ext ?_ _ | exact Blk.set (by assumption) _ _ | (refine Blk.other ?_ ?_ _; rotate_left; (simp <;> omega)))), (by repeat (first | assumption | (refine Blk.at_ _ _ ?_; simp; done) | refine Blk.alloc ?_ _ | refine Blk.drew ?_ | refine Blk.ext ?_ _ | exact Blk.set (by assumption) _ _ | (refine Blk.other ?_ ?_ _; rotate_left; (simp <;> omega)))), (by repeat (first | assumption | (refine Blk.at_ _ _ ?_; simp; done) | refine Blk.alloc ?_ _ | refine Blk.drew ?_ | refine Blk.ext ?_ _ | exact Blk.set (by assumption) _ _ | (refine Blk.other ?_ ?_ _; rotate_left; (simp <;> omega)))), by rw [Nat.zero_mul]; exact Own.nil _ _ _ _⟩
  case round =>
    obtain ⟨yn, v, hk, rfl, hb, hfi, hsh, hres, hout, hown⟩ := hrel
    have m1 := hfi.lt
    have m2 := hsh.lt
    have m3 := hres.lt
    have m4 := hout.lt
    have csh := hsh.cell
    have HFI := Lib.hid hfi
    have HSH := Lib.hid hsh
    have HR := Lib.hid hres
    have HO := Lib.hid hout
    have HW := Lib.hid hown
    have HBE := Lib.hid hb
    by_cases hlt : yn < Hn
    · have tlt : decide ((yn : Int) < e.H) = true := decide_eq_true (by have := HHN.out; omega)
      clear hfi hsh hres hout hown hb
      obtain ⟨wo, rfl⟩ : ∃ wo : World, wo = wr := ⟨_, rfl⟩
      go_wp2
      go_loopw [10] (fun i wr => ∃ (xn : Nat) (v : Value), xn ≤ Wn ∧ i = .int .i64 xn ∧ Below w.heap.size w wr ∧ Blk wr w.heap.size #[.int .i64 e.W, .int .i64 e.H, .slice AL nL cL, .slice AD n cD, .slice AN n cN, .slice AB n cB, .slice AS n cS, .slice AF n cF] 29 ∧ Blk wr (w.heap.size + 1) #[.int .i64 e.W, .int .i64 e.H, .slice A2 n c2] 24 ∧ Blk wr (w.heap.size + 1 + 1) #[.int .i64 0, .int .i64 0, .slice none 0 0] 24 ∧
          Blk wr x2.val.heap.size #[.int .i64 e.W, .int .i64 e.H, v] 24 ∧ Own wr w.heap.size 54 3 v ((List.range (yn * Wn + xn)).map (hueC (fun i => (e.at i).1) (fun i => (e.at i).2.1) (fun i => (e.at i).2.2)))) (fun i _ => Wn - (intOf i).toNat)
      case atStart => exact ⟨0, _, by omega, rfl, HBE.out, HFI.out, HSH.out, HR.out, HO.out, HW.out⟩
      case round =>
        obtain ⟨xn, v, hkx, rfl, hb, hfi, hsh, hres, hout, hown⟩ := hrel
        have m1 := hfi.lt
        have m2 := hsh.lt
        have m3 := hres.lt
        have m4 := hout.lt
        have cfi := hfi.cell
        have csh := hsh.cell
        clear HFI HSH HR HO HW HBE
        have HFI := Lib.hid hfi
        have HSH := Lib.hid hsh
        have HR := Lib.hid hres
        have HO := Lib.hid hout
        have HW := Lib.hid hown
        have HBE := Lib.hid hb
        by_cases hltx : xn < Wn
        · have tlx : decide ((xn : Int) < e.W) = true := decide_eq_true (by have := HWN.out; omega)
          have hin : yn * Wn + xn < n := by
            have h1 : (yn + 1) * Wn ≤ Hn * Wn := Nat.mul_le_mul_right _ (by omega)
            rw [Nat.add_mul, Nat.one_mul, Nat.mul_comm Hn Wn, ← HNW.out] at h1
            omega
          obtain ⟨A', cap', rfl, hcap', _, _⟩ := hown.cells
          simp only [List.length_map, List.length_range] at HW hcap' HO
          have co := HO.out.cell 2
          simp at co
          have N0 := Lib.hid (HW.out.ne_blk hfi (by decide))
          have N1 := Lib.hid (HW.out.ne_blk HO.out (by decide))
          have N2 := Lib.hid (HW.out.ne_blk hres (by decide))
          have N3 := Lib.hid (HW.out.ne_blk hsh (by decide))
          have HX := Lib.hid (fun wz (hz : Below w.heap.size w wz) => rpixel_any e hl e.W e.H AL AD AN AB AS AF A2 nL cL cD cN n cB cS n cF c2 n (yn * Wn + xn) xn yn wz HSZ.out HNN.out hin (by omega) (by have := HWN.out; omega) (by omega) (by have := HHN.out; omega) (by rw [HWN.out, Int.natCast_add, Int.natCast_mul]) (by rw [HFS.out]; exact HS.out.below hz) (HD.out.below hz) (HN.out.below hz) (HL.out.below hz))
          have AX := Lib.hid (at_xy (e := e) (yn := yn) HWN.out hltx)
          generalize hq : yn * Wn + xn = q at *
          have HQ := Lib.hid hq
          clear hfi hsh hres hout hown hb hq
          obtain ⟨wi, rfl⟩ : ∃ wi : World, wi = wr := ⟨_, rfl⟩
          go_wp2
          refine wp_region_earlyX 8 (by kernel_rfl) (by kernel_rfl) (by kernel_rfl) _ rfl rfl ?_
          apply Exists.intro
          refine ⟨fun xh => ?_, fun xt => ?_⟩
          · simp only [List.take_succ_cons, List.take_zero]
            repeat (go_big_quiet_step ((first | (go_at_call 25; exact Calls.grew _ (HX.out _ (by have := HBE.out; exact (by repeat (first | assumption | exact gr_refl _ | refine gr_alloc ?_ _ | refine gr_drew ?_ | refine gr_drewN ?_ _ | refine gr_ext ?_ _ | (refine gr_set ?_ ?_ _; rotate_left; (simp <;> omega))))))))))
            exact wpQuiet_nil rfl
          apply Exists.intro
          apply Exists.intro
          refine ⟨by go_simp; exact ⟨rfl, rfl⟩, gr_alloc (gr_refl _) _, fun yt => ?_⟩
          simp only [List.drop_succ_cons, List.drop_zero]
          have hxt := xt.size_val
          (try simp at hxt)
          have hyt := yt.size_val
          simp at hyt
          have bnew : Blk yt.val xt.val.heap.size #[.int .i64 (e.px q xn yn).1, .int .i64 (e.px q xn yn).2.1, .int .i64 (e.px q xn yn).2.2] 54 := (by repeat (first | assumption | (refine Blk.at_ _ _ ?_; simp; done) | refine Blk.alloc ?_ _ | refine Blk.drew ?_ | refine Blk.ext ?_ _ | exact Blk.set (by assumption) _ _ | (refine Blk.other ?_ ?_ _; rotate_left; (simp <;> omega))))
          have bgr : Below w.heap.size w yt.val := by have := HBE.out; exact (by repeat (first | assumption | exact gr_refl _ | refine gr_alloc ?_ _ | refine gr_drew ?_ | refine gr_drewN ?_ _ | refine gr_ext ?_ _ | (refine gr_set ?_ ?_ _; rotate_left; (simp <;> omega))))
          have own2 : Own yt.val w.heap.size 54 3 (.slice A' q cap') ((List.range q).map (hueC (fun i => (e.at i).1) (fun i => (e.at i).2.1) (fun i => (e.at i).2.2))) := ((HW.out.ext xt).alloc _).ext yt
          have bf : Blk yt.val w.heap.size #[.int .i64 e.W, .int .i64 e.H, .slice AL nL cL, .slice AD n cD, .slice AN n cN, .slice AB n cB, .slice AS n cS, .slice AF n cF] 29 := by have := HFI.out; exact (by repeat (first | assumption | (refine Blk.at_ _ _ ?_; simp; done) | refine Blk.alloc ?_ _ | refine Blk.drew ?_ | refine Blk.ext ?_ _ | exact Blk.set (by assumption) _ _ | (refine Blk.other ?_ ?_ _; rotate_left; (simp <;> omega))))
          have bs : Blk yt.val (w.heap.size + 1) #[.int .i64 e.W, .int .i64 e.H, .slice A2 n c2] 24 := by have := HSH.out; exact (by repeat (first | assumption | (refine Blk.at_ _ _ ?_; simp; done) | refine Blk.alloc ?_ _ | refine Blk.drew ?_ | refine Blk.ext ?_ _ | exact Blk.set (by assumption) _ _ | (refine Blk.other ?_ ?_ _; rotate_left; (simp <;> omega))))
          have br : Blk yt.val (w.heap.size + 1 + 1) #[.int .i64 0, .int .i64 0, .slice none 0 0] 24 := by have := HR.out; exact (by repeat (first | assumption | (refine Blk.at_ _ _ ?_; simp; done) | refine Blk.alloc ?_ _ | refine Blk.drew ?_ | refine Blk.ext ?_ _ | exact Blk.set (by assumption) _ _ | (refine Blk.other ?_ ?_ _; rotate_left; (simp <;> omega))))
          have bo : Blk yt.val x2.val.heap.size #[.int .i64 e.W, .int .i64 e.H, .slice A' q cap'] 24 := by have := HO.out; exact (by repeat (first | assumption | (refine Blk.at_ _ _ ?_; simp; done) | refine Blk.alloc ?_ _ | refine Blk.drew ?_ | refine Blk.ext ?_ _ | exact Blk.set (by assumption) _ _ | (refine Blk.other ?_ ?_ _; rotate_left; (simp <;> omega))))
          go_wp2_with (at_builtin; refine own_append1 (w0 := w) rfl _ _ 22 rfl w.heap.size 54 (.agg #[.int .i64 0, .int .i64 0, .int .i64 0]) 3 24 Tryd.underlying22 (by kernel_rfl) rfl (by omega) _ _ rfl own2 xt.val.heap.size [.int .i64 (e.px q xn yn).1, .int .i64 (e.px q xn yn).2.1, .int .i64 (e.px q xn yn).2.2] rfl bnew rfl (by intro u hu; simp at hu; rcases hu with rfl | rfl | rfl <;> rfl) (by simp; omega) (by omega) bgr (Nat.le_refl _) (by omega) ?_)
          intro v' w1 ho1 hb1 hg1
          have d0 : hueC (fun i => (e.at i).1) (fun i => (e.at i).2.1) (fun i => (e.at i).2.2) q = [.int .i64 (e.px q xn yn).1, .int .i64 (e.px q xn yn).2.1, .int .i64 (e.px q xn yn).2.2] := by
            show [Value.int .i64 (e.at q).1, .int .i64 (e.at q).2.1, .int .i64 (e.at q).2.2] = _
            rw [AX.out]
          rw [← d0, ← map_range_succ] at ho1
          have bf1 := bf.grown hg1 (Ne.symm N0.out)
          have bs1 := bs.grown hg1 (Ne.symm N3.out)
          have br1 := br.grown hg1 (Ne.symm N2.out)
          have bo1 := bo.grown hg1 (Ne.symm N1.out)
          have lb1 := bo1.lt
          obtain ⟨A3, cap3, rfl, _, _, _⟩ := ho1.cells
          have n5 := ho1.ne_blk bo1 (by decide)
          have co1 := bo1.cell
          have fo1 := bo1.frozen
          have BF1 := Lib.hid bf1
          have BS1 := Lib.hid bs1
          have BR1 := Lib.hid br1
          have BO1 := Lib.hid bo1
          have HO1 := Lib.hid ho1
          have HB1 := Lib.hid hb1
          have N5 := Lib.hid n5
          simp only [List.length_map, List.length_range] at HO1 N5
          clear bf1 bs1 br1 bo1 ho1 hb1 hg1 n5 bnew bgr own2 bf bs br bo d0
          go_wp2
          go_roundw
          case rel =>
            refine ⟨xn + 1, .slice A3 (q + 1) cap3, by omega, by go_num, gr_set HB1.out (by simp; omega) _, BF1.out.other (by simp; omega) _, BS1.out.other (by simp; omega) _, BR1.out.other (by simp; omega) _, BO1.out.set _ _, ?_⟩
            have e9 : yn * Wn + (xn + 1) = q + 1 := by have := HQ.out; omega
            rw [e9]
            exact HO1.out.other N5.out _
          case measure => simp [intOf]; omega
        · obtain rfl : xn = Wn := by omega
          have tlx : decide ((xn : Int) < e.W) = false := decide_eq_false (by have := HWN.out; omega)
          clear hfi hsh hres hout hown hb
          go_wp2
          go_roundw
          case rel => exact ⟨yn + 1, _, by omega, by go_num, HBE.out, HFI.out, HSH.out, HR.out, HO.out, by rw [Nat.add_mul, Nat.one_mul]; exact HW.out⟩
          case measure => simp [intOf]; omega
    · obtain rfl : yn = Hn := by omega
      have tlt : decide ((yn : Int) < e.H) = false := decide_eq_false (by have := HHN.out; omega)
      have e9 : yn * Wn = n := by rw [HNW.out, Nat.mul_comm]
      rw [e9] at hown
      obtain ⟨A', cap', rfl, hcap', _, _⟩ := hown.cells
      simp only [List.length_map, List.length_range] at hown hcap' hout
      have n2 := hown.ne_blk hres (by decide)
      have co := hout.cell
      have cr := hres.cell
      have fr := hres.frozen
      clear HFI HSH HR HO HW e9
      have HW := Lib.hid hown
      have N2 := Lib.hid n2
      clear hown n2
      go_wp2
      refine bodyPost_ret (v := .tuple #[.agg #[.int .i64 e.W, .int .i64 e.H, .slice A' n cap'], .int .i64 0]) (by simp [results, Tryd.results11, go_sem, cr]) rfl ⟨_, rfl, ?_, ?_⟩
      · exact ((HW.out.other N2.out _).other N2.out _).other N2.out _
      · exact gr_set (gr_set (gr_set hb (by simp; omega) _) (by simp; omega) _) (by simp; omega) _
end Go.Proofs.YtneegcnidoopmaaDoor
