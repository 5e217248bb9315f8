/- Contract of ref20.Pixel: a pixel, smoothed at a level. Conditions: the film's and the sheet's rows lie behind their slices; the pixel lies in them; the level is at most 4. -/
import Derived.Test.YtneegcnidoopmaaDoorLe
namespace Go.Proofs.YtneegcnidoopmaaDoor
open Go.RowKit

set_option maxRecDepth 100000 in
set_option maxHeartbeats 8000000 in
theorem rpixel_any (e : Env) (hl : e.l ≤ 4) (W2 H2 : Int) (AL AD AN AB AS AF A2 : Option Addr) (nL cL cD cN nB cB cS nF cF c2 n : Nat) (i : Nat) (x y : Int) (w : World) (hs : sizeB e.W e.H = true) (hn : (n : Int) = e.W * e.H) (hi : i < n) (x0 : 0 ≤ x) (x1 : x < e.W) (y0 : 0 ≤ y) (y1 : y < e.H) (hxy : y * e.W + x = i)
    (hS : CellsI w AS n e.f.sh) (hD : CellsI w AD n e.f.d) (hN : CellsH w AN n e.f.nx e.f.ny e.f.nz) (hL : CellsH w A2 n e.R e.G e.B) :
    Calls Tryd.prog 25 #[.agg #[.int .i64 W2, .int .i64 H2, .slice AL nL cL, .slice AD n cD, .slice AN n cN, .slice AB nB cB, .slice AS n cS, .slice AF nF cF], .agg #[.int .i64 e.W, .int .i64 e.H, .slice A2 n c2], .int .i64 x, .int .i64 y, .int .i64 e.l] w fun en w' =>
      en = .returned (.agg #[.int .i64 (e.px i x y).1, .int .i64 (e.px i x y).2.1, .int .i64 (e.px i x y).2.2]) ∧ Grew w w' := by
  obtain ⟨hW1, hW2, hH1, hH2⟩ := sizeB_out hs
  have ar := area_bd hs
  have ar1 := ar.1
  have ar2 := ar.2
  obtain ⟨b2, o2, rfl, cl⟩ := hL (by omega)
  have p0 := (cl i hi).1
  have l2 : b2 < w.heap.size := World.block_lt_of_cell? _ _ p0
  have HL := Lib.hid hL
  have CL := Lib.hid cl
  have HS := Lib.hid hS
  have HD := Lib.hid hD
  have HN := Lib.hid hN
  have pos := held_pos (rows_pos e hl i x y x0 x1 y0 y1 hxy)
  have POS := Lib.hid pos
  obtain ⟨_, _, _, yw1, yw2⟩ := cell_k x0 x1 y0 y1
  have HNW := Lib.hid hn
  have hb := pw_bd hl
  have hn2 : n ≤ 4096 := by omega
  clear hs ar cl hS hD hN hL p0 pos hn
  go_enter Tryd.func25, Tryd.ntmps25
  go_wp2_with (go_at_call 34; refine (power_any e.l hl _).mono ?_; rintro e w' ⟨rfl, rfl⟩)
  obtain ⟨LL, eL⟩ : ∃ LL : List (Nat × Array Value × TypeId), LL = [(w.heap.size, #[.int .i64 W2, .int .i64 H2, .slice AL nL cL, .slice AD n cD, .slice AN n cN, .slice AB nB cB, .slice AS n cS, .slice AF nF cF], 29), (w.heap.size + 1, #[.int .i64 e.W, .int .i64 e.H, .slice (some ⟨b2, o2, none⟩) n c2], 24), (w.heap.size + 1 + 1, #[.int .i64 0, .int .i64 0, .int .i64 0], 54)] := ⟨_, rfl⟩
  have hfam : Fam w LL (((w.alloc (.cells #[.int .i64 W2, .int .i64 H2, .slice AL nL cL, .slice AD n cD, .slice AN n cN, .slice AB nB cB, .slice AS n cS, .slice AF nF cF] 29)).alloc (.cells #[.int .i64 e.W, .int .i64 e.H, .slice (some ⟨b2, o2, none⟩) n c2] 24)).alloc (.cells #[.int .i64 0, .int .i64 0, .int .i64 0] 54)) := by
    rw [eL]
    refine ⟨(by repeat (first | assumption | exact gr_refl _ | refine gr_alloc ?_ _ | refine gr_drew ?_ | refine gr_drewN ?_ _ | refine gr_ext ?_ _ | (refine gr_set ?_ ?_ _; rotate_left; (simp <;> omega)))), fun p hp => ?_⟩
    simp at hp
    rcases hp with rfl | rfl | rfl
    · exact (by repeat (first | assumption | (refine Blk.at_ _ _ ?_; simp; done) | refine Blk.alloc ?_ _ | refine Blk.drew ?_ | refine Blk.ext ?_ _ | exact Blk.set (by assumption) _ _ | (refine Blk.other ?_ ?_ _; rotate_left; (simp <;> omega))))
    · exact (by repeat (first | assumption | (refine Blk.at_ _ _ ?_; simp; done) | refine Blk.alloc ?_ _ | refine Blk.drew ?_ | refine Blk.ext ?_ _ | exact Blk.set (by assumption) _ _ | (refine Blk.other ?_ ?_ _; rotate_left; (simp <;> omega))))
    · exact (by repeat (first | assumption | (refine Blk.at_ _ _ ?_; simp; done) | refine Blk.alloc ?_ _ | refine Blk.drew ?_ | refine Blk.ext ?_ _ | exact Blk.set (by assumption) _ _ | (refine Blk.other ?_ ?_ _; rotate_left; (simp <;> omega))))
  have gfilm : ∀ w', Fam w LL w' → Blk w' w.heap.size #[.int .i64 W2, .int .i64 H2, .slice AL nL cL, .slice AD n cD, .slice AN n cN, .slice AB nB cB, .slice AS n cS, .slice AF nF cF] 29 := fun w' h => h.get (by rw [eL]; simp)
  have gsheet : ∀ w', Fam w LL w' → Blk w' (w.heap.size + 1) #[.int .i64 e.W, .int .i64 e.H, .slice (some ⟨b2, o2, none⟩) n c2] 24 := fun w' h => h.get (by rw [eL]; simp)
  have gres : ∀ w', Fam w LL w' → Blk w' (w.heap.size + 1 + 1) #[.int .i64 0, .int .i64 0, .int .i64 0] 54 := fun w' h => h.get (by rw [eL]; simp)
  have hne : ∀ p ∈ LL, p.1 < w.heap.size + 1 + 1 + 1 := by rw [eL]; simp; omega
  have GF := Lib.hid gfilm
  have GS := Lib.hid gsheet
  have GR := Lib.hid gres
  have HF := Lib.hid hfam
  have HNE := Lib.hid hne
  have HXY := Lib.hid hxy
  clear hfam gfilm gsheet gres eL hne
  go_loopw [14, 15] (fun tot dn wr => ∃ p : Nat, p ≤ 5 ∧ dn = .int .i64 ((p : Int) - 2) ∧ tot = .int .i64 (e.rows i x y p).t ∧ Fam w LL wr ∧ Blk wr (w.heap.size + 1 + 1 + 1) #[.int .i64 (e.rows i x y p).r, .int .i64 (e.rows i x y p).g, .int .i64 (e.rows i x y p).b] 54) (fun _ dn _ => (3 - intOf dn).toNat)
  case atStart => exact ⟨0, by omega, rfl, rfl, HF.out.alloc _, (by repeat (first | assumption | (refine Blk.at_ _ _ ?_; simp; done) | refine Blk.alloc ?_ _ | refine Blk.drew ?_ | refine Blk.ext ?_ _ | exact Blk.set (by assumption) _ _ | (refine Blk.other ?_ ?_ _; rotate_left; (simp <;> omega))))⟩
  case round =>
    obtain ⟨p, hp, rfl, rfl, hf, hsum⟩ := hrel
    have FW := Lib.hid hf
    have SW := Lib.hid hsum
    by_cases hlt : p < 5
    · obtain ⟨dn, hdn⟩ : ∃ a : Int, (p : Int) - 2 = a := ⟨_, rfl⟩
      have bt := rows_bd e hl i x y p
      obtain ⟨wo, rfl⟩ : ∃ wo : World, wo = wr := ⟨_, rfl⟩
      clear hf hsum
      rw [hdn]
      have d1 : -2 ≤ dn := by omega
      have d2 : dn ≤ 2 := by omega
      go_wp2
      go_loopw [14, 16] (fun tot ac wi => ∃ q : Nat, q ≤ 5 ∧ ac = .int .i64 ((q : Int) - 2) ∧ tot = .int .i64 (e.row i x y p (e.rows i x y p) q).t ∧ Fam w LL wi ∧ Blk wi (w.heap.size + 1 + 1 + 1) #[.int .i64 (e.row i x y p (e.rows i x y p) q).r, .int .i64 (e.row i x y p (e.rows i x y p) q).g, .int .i64 (e.row i x y p (e.rows i x y p) q).b] 54) (fun _ ac _ => (3 - intOf ac).toNat)
      case atStart => exact ⟨0, by omega, rfl, rfl, FW.out, SW.out⟩
      case round =>
        obtain ⟨q, hq, rfl, rfl, hf, hsum⟩ := hrel
        have FI := Lib.hid hf
        have SI := Lib.hid hsum
        have HDN := Lib.hid hdn
        clear hf hsum
        by_cases hql : q < 5
        · obtain ⟨ac, hac⟩ : ∃ a : Int, (q : Int) - 2 = a := ⟨_, rfl⟩
          have a1 : -2 ≤ ac := by omega
          have a2 : ac ≤ 2 := by omega
          have sa := step_bd hl a1 a2
          have sd := step_bd hl d1 d2
          obtain ⟨u, hu⟩ : ∃ u : Int, x + ac * pw e.l = u := ⟨_, rfl⟩
          obtain ⟨v, hv⟩ : ∃ v : Int, y + dn * pw e.l = v := ⟨_, rfl⟩
          have bu1 : -32 ≤ u := by omega
          have bu2 : u ≤ 96 := by omega
          have bv1 : -32 ≤ v := by omega
          have bv2 : v ≤ 96 := by omega
          have bt := row_up e hl i x y p (e.rows i x y p) bt.1 bt.2 q
          have HAC := Lib.hid hac
          have er : e.row i x y p (e.rows i x y p) (q + 1) = e.tap i x y ac dn (e.row i x y p (e.rows i x y p) q) := by rw [row_succ, hac, hdn]
          have ER := Lib.hid er
          have cs := (GS.out _ FI.out).cell
          have ls := (GS.out _ FI.out).lt
          have cf := (GF.out _ FI.out).cell
          have lf := (GF.out _ FI.out).lt
          have tm := tapF_mul ac dn
          rw [hac]
          generalize e.row i x y p (e.rows i x y p) q = S at *
          clear hdn er hac
          by_cases hin : 0 ≤ u ∧ u < e.W ∧ 0 ≤ v ∧ v < e.H
          · obtain ⟨i1, i2, i3, i4⟩ := hin
            obtain ⟨k, hk, k1, k2, k3⟩ := cell_k i1 i2 i3 i4
            have hkn : k < n := by have := HNW.out; omega
            have et := tap_in (e := e) (i := i) (s := S) hu hv i1 i2 i3 i4 hk
            have ET := Lib.hid (ER.out.trans et)
            have wn := wt_nonneg e.f e.R e.G e.B hl i k ac dn
            have g1 : decide (u < 0) = false := decide_eq_false (by omega)
            have g2 : decide (e.W ≤ u) = false := decide_eq_false (by omega)
            have g3 : decide (v < 0) = false := decide_eq_false (by omega)
            have g4 : decide (e.H ≤ v) = false := decide_eq_false (by omega)
            have et2 : e.row i x y p (e.rows i x y p) (q + 1) = ⟨addF S.r (mulF (e.R k) (e.f.wt e.R e.G e.B e.l i k ac dn)), addF S.g (mulF (e.G k) (e.f.wt e.R e.G e.B e.l i k ac dn)), addF S.b (mulF (e.B k) (e.f.wt e.R e.G e.B e.l i k ac dn)), addF S.t (e.f.wt e.R e.G e.B e.l i k ac dn)⟩ := ET.out
            have ET2 := Lib.hid et2
            have hbw := FI.out.bel
            obtain ⟨r0, r1, r2⟩ := CL.out k hkn
            have t0 := cell_later hbw r0
            have t1 := cell_later hbw r1
            have t2 := cell_later hbw r2
            have lb2 := World.block_lt_of_cell? _ _ t0
            have lsum := SI.out.lt
            have csum := SI.out.cell
            have fsum := SI.out.frozen
            clear et et2 r0 r1 r2 hbw
            by_cases hik : i = k
            · have hne : ((i : Int) != (k : Int)) = false := by simp [hik]
              have wq : e.f.wt e.R e.G e.B e.l i k ac dn = mulF (tapF ac * tapF dn * 65536) 65536 := wt_same hik
              rw [wq] at ET2 wn
              clear hik
              have FJ := FI
              have SJ := SI
              clear wq
              generalize hwg : mulF (tapF ac * tapF dn * 65536) 65536 = wg at *
              go_wp2_with (first | (go_at_call 41; refine (tap_any _ (by omega) (by omega) _).mono ?_; rintro e w' ⟨rfl, rfl⟩) | (go_at_call 36; refine (rof_any _ _ (by omega) (by omega)).mono ?_; rintro e w' ⟨rfl, rfl⟩) | (go_at_call 35; refine (rmul_any _ _ _).mono ?_; rintro e w' ⟨rfl, rfl⟩))
              refine wp_region_ext_tail 9 (by kernel_rfl) (by kernel_rfl) ?_
              simp only [List.take_succ_cons, List.take_zero, List.drop_succ_cons, List.drop_zero]
              repeat (go_big_quiet_step ((first | (go_at_call 43; exact Calls.grew _ (rscale_any _ _ _ _ _)) | (go_at_call 42; exact Calls.grew _ (rhadd_any _ _ _ _ _ _ _)))))
              refine wpQuiet_nil ?_
              rintro _ ⟨z3, rfl⟩
              have FK := Lib.hid (FJ.out.ext z3)
              have SK := Lib.hid (SJ.out.ext z3)
              have csum3 := SK.out.cell
              have fsum3 := SK.out.frozen
              go_wp2_with (go_at_call 40; refine (radd_any _ _ _).mono ?_; rintro e w' ⟨rfl, rfl⟩)
              go_roundw
              case rel =>
                refine ⟨q + 1, by omega, by congr 1; have := HAC.out; omega, by rw [ET2.out], ?_, ?_⟩
                · exact ((FK.out.set (by simp; omega) (fun p hp => by have := HNE.out p hp; simp; omega) _).set (by simp; omega) (fun p hp => by have := HNE.out p hp; simp; omega) _).set (by simp; omega) (fun p hp => by have := HNE.out p hp; simp; omega) _
                · rw [ET2.out]; exact ((SK.out.set 0 _).set 1 _).set 2 _
              case measure => simp [intOf]; omega
            · have hne : ((i : Int) != (k : Int)) = true := by simp; omega
              have wq : e.f.wt e.R e.G e.B e.l i k ac dn = mulF (tapF ac * tapF dn * 65536) (mulF (e.f.like i k) (nearF e.l (e.R i) (e.G i) (e.B i) (e.R k) (e.G k) (e.B k))) := wt_apart hik
              rw [wq] at ET2 wn
              have pos : 0 < held (addF 65536 (mulF (2 * pw e.l * 65536) (diffF (e.R i) (e.G i) (e.B i) (e.R k) (e.G k) (e.B k)))) := held_pos (near_pos e.l hl ..)
              have nq : Hid (nearF e.l (e.R i) (e.G i) (e.B i) (e.R k) (e.G k) (e.B k) = divP 65536 (addF 65536 (mulF (2 * pw e.l * 65536) (diffF (e.R i) (e.G i) (e.B i) (e.R k) (e.G k) (e.B k))))) := Lib.hid rfl
              obtain ⟨s0, s1, s2⟩ := CL.out i hi
              have v0 := cell_later FI.out.bel s0
              have v1 := cell_later FI.out.bel s1
              have v2 := cell_later FI.out.bel s2
              clear wq s0 s1 s2
              go_wp2
              refine wp_region_ext_tail 16 (by kernel_rfl) (by kernel_rfl) ?_
              simp only [List.take_succ_cons, List.take_zero, List.drop_succ_cons, List.drop_zero]
              repeat (go_big_quiet_step ((first | (go_at_call 34; exact Calls.ext_same _ (power_any e.l hl _)) | (go_at_call 36; exact Calls.ext_same _ (rof_any _ _ (by omega) (by omega))) | (go_at_call 37; exact Calls.grew _ (rdiff_any _ _ _ _ _ _ _)) | (go_at_call 35; exact Calls.ext_same _ (rmul_any _ _ _)))))
              refine wpQuiet_nil ?_
              rintro _ ⟨z2, rfl⟩
              have F2 := Lib.hid (FI.out.ext z2)
              have cf2 := (GF.out _ F2.out).cell
              have lf2 := (GF.out _ F2.out).lt
              go_wp2_with fail
              refine (rlike_any e.f _ _ _ _ _ _ _ _ _ _ _ _ _ _ _ _ _ n i k _ hi hkn (by omega) (HS.out.below F2.out.bel) (HD.out.below F2.out.bel) (HN.out.below F2.out.bel)).mono ?_
              rintro en w' ⟨rfl, z4, rfl⟩
              have FJ := Lib.hid (F2.out.ext z4)
              have SJ := Lib.hid ((SI.out.ext z2).ext z4)
              rw [nq.out] at ET2 wn
              have cs4 := (GS.out _ FJ.out).cell 2
              simp at cs4
              have ls4 := (GS.out _ FJ.out).lt
              have lsum4 := SJ.out.lt
              have csum4 := SJ.out.cell
              obtain ⟨r0, r1, r2⟩ := CL.out k hkn
              have hbw := FJ.out.bel
              have t0' := cell_later hbw r0
              have t1' := cell_later hbw r1
              have t2' := cell_later hbw r2
              have lb4 := World.block_lt_of_cell? _ _ t0'
              clear r0 r1 r2 hbw csum fsum cs ls cf lf t0 t1 t2 v0 v1 v2 cf2 lf2 nq
              go_wp2_with (first | (go_at_call 40; refine (radd_any _ _ _).mono ?_; rintro e w' ⟨rfl, rfl⟩) | (go_at_call 39; refine (rdivP_any _ _ _ pos).mono ?_; rintro e w' ⟨rfl, rfl⟩) | (go_at_call 41; refine (tap_any _ (by omega) (by omega) _).mono ?_; rintro e w' ⟨rfl, rfl⟩) | (go_at_call 36; refine (rof_any _ _ (by omega) (by omega)).mono ?_; rintro e w' ⟨rfl, rfl⟩) | (go_at_call 35; refine (rmul_any _ _ _).mono ?_; rintro e w' ⟨rfl, rfl⟩))
              refine wp_region_ext_tail 9 (by kernel_rfl) (by kernel_rfl) ?_
              simp only [List.take_succ_cons, List.take_zero, List.drop_succ_cons, List.drop_zero]
              repeat (go_big_quiet_step ((first | (go_at_call 43; exact Calls.grew _ (rscale_any _ _ _ _ _)) | (go_at_call 42; exact Calls.grew _ (rhadd_any _ _ _ _ _ _ _)))))
              refine wpQuiet_nil ?_
              rintro _ ⟨z3, rfl⟩
              have FK := Lib.hid (FJ.out.ext z3)
              have SK := Lib.hid (SJ.out.ext z3)
              have csum3 := SK.out.cell
              have fsum3 := SK.out.frozen
              go_wp2_with (go_at_call 40; refine (radd_any _ _ _).mono ?_; rintro e w' ⟨rfl, rfl⟩)
              go_roundw
              case rel =>
                refine ⟨q + 1, by omega, by congr 1; have := HAC.out; omega, by rw [ET2.out], ?_, ?_⟩
                · exact ((FK.out.set (by simp; omega) (fun p hp => by have := HNE.out p hp; simp; omega) _).set (by simp; omega) (fun p hp => by have := HNE.out p hp; simp; omega) _).set (by simp; omega) (fun p hp => by have := HNE.out p hp; simp; omega) _
                · rw [ET2.out]; exact ((SK.out.set 0 _).set 1 _).set 2 _
              case measure => simp [intOf]; omega
          · have et := tap_out (e := e) (i := i) (s := S) hu hv hin
            have ET := Lib.hid (ER.out.trans et)
            clear et
            by_cases h1 : u < 0
            · have g1 : decide (u < 0) = true := decide_eq_true h1
              go_wp2
              go_roundw
              case rel => exact ⟨q + 1, by omega, by congr 1; have := HAC.out; omega, by rw [ET.out], FI.out, by rw [ET.out]; exact SI.out⟩
              case measure => simp [intOf]; omega
            have g1 : decide (u < 0) = false := decide_eq_false h1
            by_cases h2 : e.W ≤ u
            · have g2 : decide (e.W ≤ u) = true := decide_eq_true h2
              go_wp2
              go_roundw
              case rel => exact ⟨q + 1, by omega, by congr 1; have := HAC.out; omega, by rw [ET.out], FI.out, by rw [ET.out]; exact SI.out⟩
              case measure => simp [intOf]; omega
            have g2 : decide (e.W ≤ u) = false := decide_eq_false h2
            by_cases h3 : v < 0
            · have g3 : decide (v < 0) = true := decide_eq_true h3
              go_wp2
              go_roundw
              case rel => exact ⟨q + 1, by omega, by congr 1; have := HAC.out; omega, by rw [ET.out], FI.out, by rw [ET.out]; exact SI.out⟩
              case measure => simp [intOf]; omega
            have g3 : decide (v < 0) = false := decide_eq_false h3
            by_cases h4 : e.H ≤ v
            · have g4 : decide (e.H ≤ v) = true := decide_eq_true h4
              go_wp2
              go_roundw
              case rel => exact ⟨q + 1, by omega, by congr 1; have := HAC.out; omega, by rw [ET.out], FI.out, by rw [ET.out]; exact SI.out⟩
              case measure => simp [intOf]; omega
            · exfalso; omega
        · obtain rfl : q = 5 := by omega
          clear hdn
          go_wp2
          go_roundw
          case rel => exact ⟨p + 1, by omega, by congr 1; have := HDN.out; omega, rfl, FI.out, SI.out⟩
          case measure => simp [intOf]; omega
    · obtain rfl : p = 5 := by omega
      have csum := hsum.cell
      have lsum := hsum.lt
      have lr := (GR.out _ FW.out).lt
      have cr := (GR.out _ FW.out).cell
      have fr := (GR.out _ FW.out).frozen
      clear hf hsum
      have D1 : Hid (e.px i x y = (divP (e.rows i x y 5).r (e.rows i x y 5).t, divP (e.rows i x y 5).g (e.rows i x y 5).t, divP (e.rows i x y 5).b (e.rows i x y 5).t)) := Lib.hid rfl
      generalize e.rows i x y 5 = S at *
      have pos := POS.out
      go_wp2
      refine wp_loop_rounds 4 ?_
      rw [rounds_succ]
      go_wp2_with (go_at_call 39; refine (rdivP_any _ _ _ pos).mono ?_; rintro e w' ⟨rfl, rfl⟩)
      rw [rounds_succ]
      go_wp2_with (go_at_call 39; refine (rdivP_any _ _ _ pos).mono ?_; rintro e w' ⟨rfl, rfl⟩)
      rw [rounds_succ]
      go_wp2_with (go_at_call 39; refine (rdivP_any _ _ _ pos).mono ?_; rintro e w' ⟨rfl, rfl⟩)
      rw [rounds_succ]
      go_wp2
      refine bodyPost_ret (v := .agg #[.int .i64 (divP S.r S.t), .int .i64 (divP S.g S.t), .int .i64 (divP S.b S.t)]) (by simp [results, Tryd.results25, go_sem, cr, lr]) rfl ⟨by rw [D1.out], Grew.of (gr_alloc (gr_set (gr_set (gr_set FW.out.bel (by simp; omega) _) (by simp; omega) _) (by simp; omega) _) _)⟩
end Go.Proofs.YtneegcnidoopmaaDoor
