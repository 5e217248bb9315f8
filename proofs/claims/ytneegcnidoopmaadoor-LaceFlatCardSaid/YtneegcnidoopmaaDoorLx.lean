/- LaceFlat: the law. Conditions: the rows lie behind their slices; the sizes named; the table of taps is as laid. -/
import Derived.Test.YtneegcnidoopmaaDoorLw
namespace Go.Proofs.YtneegcnidoopmaaDoor
open Go.RowKit

theorem tri_at {z : Nat → Int} {k : Nat} (hk : k < 3) : (#[Value.int .i64 (z 0), .int .i64 (z 1), .int .i64 (z 2)] : Array Value)[k]? = some (.int .i64 (z k)) := by
  match k, hk with
  | 0, _ => rfl
  | 1, _ => rfl
  | 2, _ => rfl
set_option maxRecDepth 100000 in
set_option maxHeartbeats 8000000 in
theorem flat_law (W H : Int) (AL AD AN AB AS AF : Option Addr) (nL cL nD cD nN cN nB cB nS cS nF cF : Nat) (R G B D NX NY NZ BR BG BB S F : Nat → Int) (z : Nat → Int) (w : World)
    (rD : nD * 8 ≤ 140737488355328) (rN : nN * 24 ≤ 140737488355328) (rB : nB * 24 ≤ 140737488355328) (rS : nS * 8 ≤ 140737488355328) (rF : nF * 8 ≤ 140737488355328) (hT : TapsIn w)
    (hL : CellsH w AL nL R G B) (hD : CellsI w AD nD D) (hN : CellsH w AN nN NX NY NZ) (hB : CellsH w AB nB BR BG BB) (hS : CellsI w AS nS S) (hF : CellsI w AF nF F) (nilS : AS = none → nS = 0 ∧ cS = 0) (nilF : AF = none → nF = 0 ∧ cF = 0) :
    Calls Tryd.prog 5 #[.agg #[.int .i64 W, .int .i64 H, .slice AL nL cL, .slice AD nD cD, .slice AN nN cN, .slice AB nB cB, .slice AS nS cS, .slice AF nF cF], .agg #[.int .i64 (z 0), .int .i64 (z 1), .int .i64 (z 2)]] w fun e w' => e = .returned (.bool true) ∧ Grew w w' := by
  have HL := Lib.hid hL
  have HD := Lib.hid hD
  have HN := Lib.hid hN
  have HB := Lib.hid hB
  have HS := Lib.hid hS
  have HF := Lib.hid hF
  have NS := Lib.hid nilS
  have NF := Lib.hid nilF
  have HT := Lib.hid hT
  clear hL hD hN hB hS hF nilS nilF hT
  cases hl : lightB nL nS nL with
  | false =>
    have HLI := Lib.hid hl
    clear hl
    go_enter Tryd.func5, Tryd.ntmps5
    go_wp2_with fail
    refine (light_any _ _ _ _ _ _ _ _ _ _ _ _ _ _ _ _ _ _ _ _ _ _ _ _ _ _).mono ?_
    rintro e w' ⟨rfl, x1, rfl⟩
    rw [HLI.out]
    go_wp2_with fail
    refine (awake20_any _ (HT.out.below (by repeat (first | assumption | exact gr_refl _ | refine gr_alloc ?_ _ | refine gr_drew ?_ | refine gr_drewN ?_ _ | refine gr_ext ?_ _ | (refine gr_set ?_ ?_ _; rotate_left; (simp <;> omega)))))).mono ?_
    rintro e w2 ⟨rfl, x2, rfl⟩
    go_wp2
    go_ret
    exact ⟨rfl, Grew.of (by repeat (first | assumption | exact gr_refl _ | refine gr_alloc ?_ _ | refine gr_drew ?_ | refine gr_drewN ?_ _ | refine gr_ext ?_ _ | (refine gr_set ?_ ?_ _; rotate_left; (simp <;> omega))))⟩
  | true =>
    obtain ⟨hl1, hl2, hl3⟩ : nL ≤ 100 ∧ nS ≤ 100 ∧ nL ≤ 100 := of_decide_eq_true hl
    have HLI := Lib.hid hl
    clear hl
    cases hr : filmB W H nL nD nN nB nS nF S F with
    | false =>
      have HR := Lib.hid hr
      clear hr
      go_enter Tryd.func5, Tryd.ntmps5
      go_wp2_with fail
      refine (light_any _ _ _ _ _ _ _ _ _ _ _ _ _ _ _ _ _ _ _ _ _ _ _ _ _ _).mono ?_
      rintro e w' ⟨rfl, x1, rfl⟩
      rw [HLI.out]
      have s1 := x1.size_val
      simp at s1
      have l1 : w.heap.size < x1.val.heap.size := by omega
      go_wp2_with fail
      refine (rfilm_right_any W H AL AD AN AB AS AF nL cL nD cD nN cN nB cB nS cS nF cF S F _ (HS.out.below (by repeat (first | assumption | exact gr_refl _ | refine gr_alloc ?_ _ | refine gr_drew ?_ | refine gr_drewN ?_ _ | refine gr_ext ?_ _ | (refine gr_set ?_ ?_ _; rotate_left; (simp <;> omega))))) (HF.out.below (by repeat (first | assumption | exact gr_refl _ | refine gr_alloc ?_ _ | refine gr_drew ?_ | refine gr_drewN ?_ _ | refine gr_ext ?_ _ | (refine gr_set ?_ ?_ _; rotate_left; (simp <;> omega)))))).mono ?_
      rintro e w' ⟨rfl, x2, rfl⟩
      rw [HR.out]
      go_wp2_with fail
      refine (awake20_any _ (HT.out.below (by repeat (first | assumption | exact gr_refl _ | refine gr_alloc ?_ _ | refine gr_drew ?_ | refine gr_drewN ?_ _ | refine gr_ext ?_ _ | (refine gr_set ?_ ?_ _; rotate_left; (simp <;> omega)))))).mono ?_
      rintro e w2 ⟨rfl, x3, rfl⟩
      go_wp2
      go_ret
      exact ⟨rfl, Grew.of (by repeat (first | assumption | exact gr_refl _ | refine gr_alloc ?_ _ | refine gr_drew ?_ | refine gr_drewN ?_ _ | refine gr_ext ?_ _ | (refine gr_set ?_ ?_ _; rotate_left; (simp <;> omega))))⟩
    | true =>
      obtain ⟨hp, e1, e2, e3, e4, e5, _⟩ := filmB_out hr
      have hn := picB_len hp
      subst e1 e2 e3 e4 e5
      have HR := Lib.hid hr
      have HP := Lib.hid hp
      clear hr hp
      go_enter Tryd.func5, Tryd.ntmps5
      go_wp2_with fail
      refine (light_any _ _ _ _ _ _ _ _ _ _ _ _ _ _ _ _ _ _ _ _ _ _ _ _ _ _).mono ?_
      rintro e w' ⟨rfl, x1, rfl⟩
      rw [HLI.out]
      have s1 := x1.size_val
      simp at s1
      have l1 : w.heap.size < x1.val.heap.size := by omega
      go_wp2_with fail
      refine (rfilm_right_any W H AL AD AN AB AS AF nF cL nF cD nF cN nF cB nF cS nF cF S F _ (HS.out.below (by repeat (first | assumption | exact gr_refl _ | refine gr_alloc ?_ _ | refine gr_drew ?_ | refine gr_drewN ?_ _ | refine gr_ext ?_ _ | (refine gr_set ?_ ?_ _; rotate_left; (simp <;> omega))))) (HF.out.below (by repeat (first | assumption | exact gr_refl _ | refine gr_alloc ?_ _ | refine gr_drew ?_ | refine gr_drewN ?_ _ | refine gr_ext ?_ _ | (refine gr_set ?_ ?_ _; rotate_left; (simp <;> omega)))))).mono ?_
      rintro e w' ⟨rfl, x2, rfl⟩
      rw [HR.out]
      have s2 := x2.size_val
      go_wp2
      go_loopw [25] (fun i wr => ∃ k : Nat, k ≤ 3 ∧ i = .int .i64 k ∧ (∀ j, j < k → 0 ≤ z j ∧ z j ≤ 1048576) ∧ Below w.heap.size w wr ∧ Blk wr w.heap.size #[.int .i64 W, .int .i64 H, .slice AL nF cL, .slice AD nF cD, .slice AN nF cN, .slice AB nF cB, .slice AS nF cS, .slice AF nF cF] 29 ∧ Blk wr (w.heap.size + 1) #[.int .i64 (z 0), .int .i64 (z 1), .int .i64 (z 2)] 54) (fun i _ => 3 - (intOf i).toNat)
      case atStart => exact ⟨0, by omega, rfl, fun j hj => by omega, (by repeat (first | assumption | exact gr_refl _ | refine gr_alloc ?_ _ | refine gr_drew ?_ | refine gr_drewN ?_ _ | refine gr_ext ?_ _ | (refine gr_set ?_ ?_ _; rotate_left; (simp <;> omega)))), (by repeat (first | assumption | (refine Blk.at_ _ _ ?_; simp; done) | refine Blk.alloc ?_ _ | refine Blk.drew ?_ | refine Blk.ext ?_ _ | exact Blk.set (by assumption) _ _ | (refine Blk.other ?_ ?_ _; rotate_left; (simp <;> omega)))), (by repeat (first | assumption | (refine Blk.at_ _ _ ?_; simp; done) | refine Blk.alloc ?_ _ | refine Blk.drew ?_ | refine Blk.ext ?_ _ | exact Blk.set (by assumption) _ _ | (refine Blk.other ?_ ?_ _; rotate_left; (simp <;> omega))))⟩
      case round =>
        obtain ⟨k, hk, rfl, hz, hb, hfi, hhu⟩ := hrel
        have HZ := Lib.hid hz
        have HBE := Lib.hid hb
        have HFI := Lib.hid hfi
        have HHU := Lib.hid hhu
        have lf := hfi.lt
        have lh := hhu.lt
        clear hz hb
        by_cases hlt : k < 3
        · have ck : wr.cell? ⟨w.heap.size + 1, k, none⟩ = some (.int .i64 (z k)) := by rw [hhu.cell, tri_at hlt]
          clear hfi hhu
          generalize hzk : z k = zk at *
          have HZK := Lib.hid hzk
          clear hzk
          by_cases g1 : zk < 0
          · have d1 : decide (zk < 0) = true := decide_eq_true g1
            go_wp2_with fail
            refine (awake20_any _ (HT.out.below (by repeat (first | assumption | exact gr_refl _ | refine gr_alloc ?_ _ | refine gr_drew ?_ | refine gr_drewN ?_ _ | refine gr_ext ?_ _ | (refine gr_set ?_ ?_ _; rotate_left; (simp <;> omega)))))).mono ?_
            rintro e w2 ⟨rfl, x3, rfl⟩
            go_wp2
            go_ret
            exact ⟨rfl, Grew.of (by repeat (first | assumption | exact gr_refl _ | refine gr_alloc ?_ _ | refine gr_drew ?_ | refine gr_drewN ?_ _ | refine gr_ext ?_ _ | (refine gr_set ?_ ?_ _; rotate_left; (simp <;> omega))))⟩
          · have d1 : decide (zk < 0) = false := decide_eq_false g1
            by_cases g2 : 1048576 < zk
            · have d2 : decide (1048576 < zk) = true := decide_eq_true g2
              go_wp2_with fail
              refine (awake20_any _ (HT.out.below (by repeat (first | assumption | exact gr_refl _ | refine gr_alloc ?_ _ | refine gr_drew ?_ | refine gr_drewN ?_ _ | refine gr_ext ?_ _ | (refine gr_set ?_ ?_ _; rotate_left; (simp <;> omega)))))).mono ?_
              rintro e w2 ⟨rfl, x3, rfl⟩
              go_wp2
              go_ret
              exact ⟨rfl, Grew.of (by repeat (first | assumption | exact gr_refl _ | refine gr_alloc ?_ _ | refine gr_drew ?_ | refine gr_drewN ?_ _ | refine gr_ext ?_ _ | (refine gr_set ?_ ?_ _; rotate_left; (simp <;> omega))))⟩
            · have d2 : decide (1048576 < zk) = false := decide_eq_false g2
              go_wp2
              go_roundw
              case rel =>
                refine ⟨k + 1, by omega, by go_num, fun j hj => ?_, HBE.out, HFI.out, HHU.out⟩
                by_cases hjk : j = k
                · subst hjk; rw [HZK.out]; omega
                · exact HZ.out j (by omega)
              case measure => simp [intOf]; omega
        · obtain rfl : k = 3 := by omega
          have cf := hfi.cell
          have z0 := HZ.out 0 (by omega)
          have z1 := HZ.out 1 (by omega)
          have z2 := HZ.out 2 (by omega)
          clear hfi hhu HZ hlt hk
          have FH := Lib.hid (flat_has ⟨S, D, NX, NY, NZ⟩ W H (by have := (picB_out HP.out).1; have := sizeB_out this; omega) (picB_out HP.out).2 (z 0) (z 1) (z 2) z0.1 z1.1 z2.1 z0.2 z1.2 z2.2 5 (by omega))
          go_wp2_with fail
          refine (to_any W H AL AD AN AB AS AF nF cL nF cD nF cN nF cB nF cS nF cF R G B D NX NY NZ BR BG BB S F _ (by omega) rD rN rB rS rF (HL.out.below HBE.out) (HD.out.below HBE.out) (HN.out.below HBE.out) (HB.out.below HBE.out) (HS.out.below HBE.out) (HF.out.below HBE.out) NS.out NF.out).mono ?_
          rintro e w3 ⟨v, rfl, ⟨vL, vD, vN, vB, vS, vF, rfl, kL, kD, kN, kB, kS, kF⟩, hb3, hnew⟩
          obtain ⟨A1, c1, rfl, hc1, ht1⟩ := kL
          have hty := ht1 (by omega)
          obtain ⟨b1, o1, rfl, _⟩ := id (hc1 (by omega))
          have hnw : wr.heap.size ≤ b1 := hnew _ rfl b1 rfl
          obtain ⟨AD1, cD1, rfl⟩ : ∃ A c, vD = .slice A nF c := by obtain ⟨A, c, e, _⟩ := kD; exact ⟨A, c, e⟩
          obtain ⟨AN1, cN1, rfl⟩ : ∃ A c, vN = .slice A nF c := by obtain ⟨A, c, e, _⟩ := kN; exact ⟨A, c, e⟩
          obtain ⟨AB1, cB1, rfl⟩ : ∃ A c, vB = .slice A nF c := by obtain ⟨A, c, e, _⟩ := kB; exact ⟨A, c, e⟩
          obtain ⟨AS1, cS1, rfl⟩ : ∃ A c, vS = .slice A nF c := by obtain ⟨A, c, e, _⟩ := kS; exact ⟨A, c, e⟩
          obtain ⟨AF1, cF1, rfl⟩ : ∃ A c, vF = .slice A nF c := by obtain ⟨A, c, e, _⟩ := kF; exact ⟨A, c, e⟩
          have hsz := HBE.out.size
          have HB3 := Lib.hid (gr_below HBE.out hb3)
          have HH3 := Lib.hid (HHU.out.below hb3)
          have HC3 := Lib.hid hc1
          have HY3 := Lib.hid hty
          have HR3 := Lib.hid (⟨kD, kN, kS, kF⟩ : Rows4 w3 nF D NX NY NZ S F _ _ _ _)
          have hs3 := HB3.out.size
          clear hnew hb3 hc1 ht1 hty kD kN kB kS kF HL HD HN HB HS HF NS NF HFI HHU cf HBE lf lh
          go_wp2_with (refine wpList_store_blk (w0 := w3) rfl 43 _ _ rfl w3.heap.size _ rfl rfl 43 _ (Blk.at_ _ _ rfl) (by kernel_rfl) (by kernel_rfl) (by kernel_rfl) ((by repeat (first | assumption | exact gr_refl _ | refine gr_alloc ?_ _ | refine gr_drew ?_ | refine gr_drewN ?_ _ | refine gr_ext ?_ _ | (refine gr_set ?_ ?_ _; rotate_left; (simp <;> omega))))) ?_ ?_)
          · omega
          intro w4 hbl hbw4 hg4
          have HX4 := Lib.hid hbl
          have HB4 := Lib.hid (gr_below HB3.out hbw4)
          have HH4 := Lib.hid (HH3.out.below hbw4)
          have HC4 := Lib.hid (HC3.out.below hbw4)
          have HY4 := Lib.hid (HY3.out.below hbw4)
          have HR4 := Lib.hid (HR3.out.below hbw4)
          have cx := hbl.cell
          have lx := hbl.lt
          clear hbl hbw4 hg4 HB3 HH3 HC3 HY3 HR3
          go_wp2
          go_loopw [46] (fun i wq => ∃ k : Nat, k ≤ nF ∧ i = .int .i64 k ∧ Below w.heap.size w wq ∧ Blk wq (w.heap.size + 1) #[.int .i64 (z 0), .int .i64 (z 1), .int .i64 (z 2)] 54 ∧ Blk wq w3.heap.size #[.int .i64 W, .int .i64 H, .slice (some ⟨b1, o1, none⟩) nF c1, .slice AD1 nF cD1, .slice AN1 nF cN1, .slice AB1 nF cB1, .slice AS1 nF cS1, .slice AF1 nF cF1] 43 ∧ CellsH wq (some ⟨b1, o1, none⟩) nF (lit (z 0) k R) (lit (z 1) k G) (lit (z 2) k B) ∧ TypA wq (some ⟨b1, o1, none⟩) 58 ∧ Rows4 wq nF D NX NY NZ S F (.slice AD1 nF cD1) (.slice AN1 nF cN1) (.slice AS1 nF cS1) (.slice AF1 nF cF1)) (fun i _ => nF - (intOf i).toNat)
          case atStart => exact ⟨0, by omega, rfl, HB4.out, HH4.out, HX4.out, by rw [lit_start, lit_start, lit_start]; exact HC4.out, HY4.out, HR4.out⟩
          case round =>
            obtain ⟨k, hk, rfl, hb, hh, hx, hc, hy, hrows⟩ := hrel
            clear cx lx HB4 HH4 HX4 HC4 HY4 HR4
            have HB5 := Lib.hid hb
            have HH5 := Lib.hid hh
            have HX5 := Lib.hid hx
            have HC5 := Lib.hid hc
            have HY5 := Lib.hid hy
            have HR5 := Lib.hid hrows
            have cx := hx.cell
            have ch := hh.cell
            have lx := hx.lt
            have lh := hh.lt
            have ly := hy.lt
            have ny := hy.ne_blk (by decide) hx
            have nh := hy.ne_blk (by decide) hh
            clear hb hh hx hrows
            by_cases hlt : k < nF
            · go_wp2
              refine wp_region_ext_tail 7 (by kernel_rfl) (by kernel_rfl) ?_
              simp only [List.take_succ_cons, List.take_zero, List.drop_succ_cons, List.drop_zero]
              repeat (go_big_quiet_step ((first | (go_at_call 17; exact Calls.grew _ (hto_any _ _ _ _)))))
              refine wpQuiet_nil ?_
              rintro _ ⟨x1, rfl⟩
              have hbx : Below wr.heap.size wr x1.val := (by repeat (first | assumption | exact gr_refl _ | refine gr_alloc ?_ _ | refine gr_drew ?_ | refine gr_drewN ?_ _ | refine gr_ext ?_ _ | (refine gr_set ?_ ?_ _; rotate_left; (simp <;> omega))))
              have HCX := Lib.hid (HC5.out.below hbx)
              have HYX := Lib.hid (HY5.out.below hbx)
              have HRX := Lib.hid (HR5.out.below hbx)
              have HHX := Lib.hid (HH5.out.below hbx)
              have HXX := Lib.hid (HX5.out.below hbx)
              have HBX := Lib.hid (gr_below HB5.out hbx)
              obtain ⟨b', o', e, hcell⟩ := HCX.out (by omega)
              injection e with e
              injection e with e1 e2
              subst e1 e2
              obtain ⟨q0, q1, q2⟩ := hcell k hlt
              have ft := HYX.out.frozen
              have lb := HYX.out.lt
              clear hbx hcell hc hy
              go_wp2
              go_roundw
              case rel =>
                refine ⟨k + 1, by omega, by go_num, gr_set (gr_set (gr_set HBX.out (by simp; omega) _) (by simp; omega) _) (by simp; omega) _, ((HHX.out.other nh _).other nh _).other nh _, ((HXX.out.other ny _).other ny _).other ny _, HCX.out.put hlt, ((HYX.out.setAny _).setAny _).setAny _, ((HRX.out.put HYX.out _).put (HYX.out.setAny _) _).put ((HYX.out.setAny _).setAny _) _⟩
              case measure => simp [intOf]; omega
            · obtain rfl : k = nF := by omega
              have HC6 := Lib.hid (show CellsH wr (some ⟨b1, o1, none⟩) k (fun _ => z 0) (fun _ => z 1) (fun _ => z 2) from hc.congr fun i hi => ⟨lit_all hi, lit_all hi, lit_all hi⟩)
              clear hc hy hlt hk HC5
              go_wp2_with fail
              refine (smooth_any ⟨S, D, NX, NY, NZ⟩ W H (fun _ => (z 0, z 1, z 2)) S F rfl _ _ _ _ _ _ _ _ _ _ _ _ _ _ _ _ _ HR.out HP.out (HT.out.below (by repeat (first | assumption | exact gr_refl _ | refine gr_alloc ?_ _ | refine gr_drew ?_ | refine gr_drewN ?_ _ | refine gr_ext ?_ _ | (refine gr_set ?_ ?_ _; rotate_left; (simp <;> omega))))) (HR5.out.s.cellsI.below (by repeat (first | assumption | exact gr_refl _ | refine gr_alloc ?_ _ | refine gr_drew ?_ | refine gr_drewN ?_ _ | refine gr_ext ?_ _ | (refine gr_set ?_ ?_ _; rotate_left; (simp <;> omega))))) (HR5.out.f.cellsI.below (by repeat (first | assumption | exact gr_refl _ | refine gr_alloc ?_ _ | refine gr_drew ?_ | refine gr_drewN ?_ _ | refine gr_ext ?_ _ | (refine gr_set ?_ ?_ _; rotate_left; (simp <;> omega))))) (HR5.out.d.cellsI.below (by repeat (first | assumption | exact gr_refl _ | refine gr_alloc ?_ _ | refine gr_drew ?_ | refine gr_drewN ?_ _ | refine gr_ext ?_ _ | (refine gr_set ?_ ?_ _; rotate_left; (simp <;> omega))))) (HR5.out.nv.cellsH.below (by repeat (first | assumption | exact gr_refl _ | refine gr_alloc ?_ _ | refine gr_drew ?_ | refine gr_drewN ?_ _ | refine gr_ext ?_ _ | (refine gr_set ?_ ?_ _; rotate_left; (simp <;> omega))))) (HC6.out.below (by repeat (first | assumption | exact gr_refl _ | refine gr_alloc ?_ _ | refine gr_drew ?_ | refine gr_drewN ?_ _ | refine gr_ext ?_ _ | (refine gr_set ?_ ?_ _; rotate_left; (simp <;> omega)))))).mono ?_
              rintro e w5 ⟨A5, c5, rfl, hc5, ht5, hb5⟩
              have HB6 := Lib.hid (gr_below HB5.out hb5)
              have HH6 := Lib.hid (HH5.out.below hb5)
              have HC7 := Lib.hid hc5
              have hs6 := HB6.out.size
              clear hb5 hc5 ht5 cx ch ny nh HX5 HY5 HR5 HC6 HB5 HH5
              go_wp2_with (refine wpList_store_blk (w0 := w5) rfl 36 _ _ rfl w5.heap.size _ rfl rfl 36 _ (Blk.at_ _ _ rfl) (by kernel_rfl) (by kernel_rfl) (by kernel_rfl) ((by repeat (first | assumption | exact gr_refl _ | refine gr_alloc ?_ _ | refine gr_drew ?_ | refine gr_drewN ?_ _ | refine gr_ext ?_ _ | (refine gr_set ?_ ?_ _; rotate_left; (simp <;> omega))))) ?_ ?_)
              · omega
              intro w6 hbl hbw6 hg6
              have HX6 := Lib.hid hbl
              have HB7 := Lib.hid (gr_below HB6.out hbw6)
              have HH7 := Lib.hid (HH6.out.below hbw6)
              have HC8 := Lib.hid (HC7.out.below hbw6)
              have cx := hbl.cell
              have lx := hbl.lt
              clear hbl hbw6 hg6 HB6 HH6 HC7
              go_wp2
              go_loopw [69] (fun i wq => ∃ q : Nat, q ≤ k ∧ i = .int .i64 q ∧ Below w.heap.size w wq ∧ Blk wq (w.heap.size + 1) #[.int .i64 (z 0), .int .i64 (z 1), .int .i64 (z 2)] 54 ∧ CellsH wq A5 k (fun i => (smo ⟨S, D, NX, NY, NZ⟩ W H (fun _ => (z 0, z 1, z 2)) 5 i).1) (fun i => (smo ⟨S, D, NX, NY, NZ⟩ W H (fun _ => (z 0, z 1, z 2)) 5 i).2.1) (fun i => (smo ⟨S, D, NX, NY, NZ⟩ W H (fun _ => (z 0, z 1, z 2)) 5 i).2.2)) (fun i _ => k - (intOf i).toNat)
              case atStart => exact ⟨0, by omega, rfl, HB7.out, HH7.out, HC8.out⟩
              case round =>
                obtain ⟨q, hq, rfl, hb, hh, hc⟩ := hrel
                clear cx lx HB7 HH7 HC8 HX6
                have HB9 := Lib.hid hb
                have HH9 := Lib.hid hh
                have HC9 := Lib.hid hc
                have lh9 := hh.lt
                clear hb hh
                by_cases hlt : q < k
                · obtain ⟨⟨p0, p1, p2⟩, ⟨r0, r1, r2⟩, t0, t1, t2⟩ := FH.out q hlt
                  obtain ⟨b5, o5, rfl, hcell⟩ := hc (by omega)
                  obtain ⟨q0, q1, q2⟩ := hcell q hlt
                  have lb5 := World.block_lt_of_cell? _ _ q0
                  simp only at q0 q1 q2 lb5
                  clear hc hcell
                  generalize (smo ⟨S, D, NX, NY, NZ⟩ W H (fun _ => (z 0, z 1, z 2)) 5 q).1 = y0 at *
                  generalize (smo ⟨S, D, NX, NY, NZ⟩ W H (fun _ => (z 0, z 1, z 2)) 5 q).2.1 = y1 at *
                  generalize (smo ⟨S, D, NX, NY, NZ⟩ W H (fun _ => (z 0, z 1, z 2)) 5 q).2.2 = y2 at *
                  go_wp2_with fail
                  refine (hfrom_any y0 y1 y2 _).mono ?_
                  rintro e w8 ⟨rfl, x8, rfl⟩
                  have hb8 : Below wr.heap.size wr x8.val := (by repeat (first | assumption | exact gr_refl _ | refine gr_alloc ?_ _ | refine gr_drew ?_ | refine gr_drewN ?_ _ | refine gr_ext ?_ _ | (refine gr_set ?_ ?_ _; rotate_left; (simp <;> omega))))
                  have HBA := Lib.hid (gr_below HB9.out hb8)
                  have HHA := Lib.hid (HH9.out.below hb8)
                  have HCA := Lib.hid (HC9.out.below hb8)
                  clear hb8 q0 q1 q2
                  go_wp2
                  go_loopw [75] (fun i wq => ∃ m : Nat, m ≤ 3 ∧ i = .int .i64 m ∧ Below w.heap.size w wq ∧ Blk wq (w.heap.size + 1) #[.int .i64 (z 0), .int .i64 (z 1), .int .i64 (z 2)] 54 ∧ CellsH wq (some ⟨b5, o5, none⟩) k (fun i => (smo ⟨S, D, NX, NY, NZ⟩ W H (fun _ => (z 0, z 1, z 2)) 5 i).1) (fun i => (smo ⟨S, D, NX, NY, NZ⟩ W H (fun _ => (z 0, z 1, z 2)) 5 i).2.1) (fun i => (smo ⟨S, D, NX, NY, NZ⟩ W H (fun _ => (z 0, z 1, z 2)) 5 i).2.2)) (fun i _ => 3 - (intOf i).toNat)
                  case atStart => exact ⟨0, by omega, rfl, HBA.out, HHA.out, HCA.out⟩
                  case round =>
                    obtain ⟨m, hm, rfl, hb, hh, hc⟩ := hrel
                    have HBB := Lib.hid hb
                    have HHB := Lib.hid hh
                    have HCB := Lib.hid hc
                    have lhb := hh.lt
                    clear hb hc HBA HHA HCA
                    by_cases hm3 : m < 3
                    · have cm : wr.cell? ⟨w.heap.size + 1, m, none⟩ = some (.int .i64 (z m)) := by rw [hh.cell, tri_at hm3]
                      clear hh
                      obtain rfl | rfl | rfl : m = 0 ∨ m = 1 ∨ m = 2 := by omega
                      · have i0 : ∀ (a b c : Value) (w : World), (Instr.index 54 (.agg #[a, b, c]) (.int .i64 0)).run Tryd.prog w = .ok a w := fun _ _ _ _ => by kernel_rfl
                        have d1 : decide (z 0 < y0) = false := decide_eq_false (by omega)
                        have d2 : decide (y0 < z 0 - 5) = false := decide_eq_false (by omega)
                        go_wp2
                        go_roundw
                        case rel => exact ⟨1, by omega, rfl, HBB.out, HHB.out, HCB.out⟩
                        case measure => simp [intOf]
                      · have i1 : ∀ (a b c : Value) (w : World), (Instr.index 54 (.agg #[a, b, c]) (.int .i64 1)).run Tryd.prog w = .ok b w := fun _ _ _ _ => by kernel_rfl
                        have d1 : decide (z 1 < y1) = false := decide_eq_false (by omega)
                        have d2 : decide (y1 < z 1 - 5) = false := decide_eq_false (by omega)
                        go_wp2
                        go_roundw
                        case rel => exact ⟨2, by omega, rfl, HBB.out, HHB.out, HCB.out⟩
                        case measure => simp [intOf]
                      · have i2 : ∀ (a b c : Value) (w : World), (Instr.index 54 (.agg #[a, b, c]) (.int .i64 2)).run Tryd.prog w = .ok c w := fun _ _ _ _ => by kernel_rfl
                        have d1 : decide (z 2 < y2) = false := decide_eq_false (by omega)
                        have d2 : decide (y2 < z 2 - 5) = false := decide_eq_false (by omega)
                        go_wp2
                        go_roundw
                        case rel => exact ⟨3, by omega, rfl, HBB.out, HHB.out, HCB.out⟩
                        case measure => simp [intOf]
                    · obtain rfl : m = 3 := by omega
                      clear hh
                      go_wp2
                      go_roundw
                      case rel => exact ⟨q + 1, by omega, by go_num, HBB.out, HHB.out, HCB.out⟩
                      case measure => simp [intOf]; omega
                · obtain rfl : q = k := by omega
                  clear hc
                  go_wp2_with fail
                  refine (awake20_any _ (HT.out.below (by repeat (first | assumption | exact gr_refl _ | refine gr_alloc ?_ _ | refine gr_drew ?_ | refine gr_drewN ?_ _ | refine gr_ext ?_ _ | (refine gr_set ?_ ?_ _; rotate_left; (simp <;> omega)))))).mono ?_
                  rintro e w9 ⟨rfl, x9, rfl⟩
                  go_wp2
                  go_ret
                  exact ⟨rfl, Grew.of (by repeat (first | assumption | exact gr_refl _ | refine gr_alloc ?_ _ | refine gr_drew ?_ | refine gr_drewN ?_ _ | refine gr_ext ?_ _ | (refine gr_set ?_ ?_ _; rotate_left; (simp <;> omega))))⟩
end Go.Proofs.YtneegcnidoopmaaDoor
