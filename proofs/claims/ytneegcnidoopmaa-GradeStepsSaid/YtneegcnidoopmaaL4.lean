/- GradeSteps: for every sheet and steps, the law answers true and leaves its input as it was. No conditions. -/
import Derived.Test.YtneegcnidoopmaaRs
import Derived.Test.YtneegcnidoopmaaM
import Derived.Test.YtneegcnidoopmaaFa
import Derived.Deep.RegionHeld3
import Derived.Deep.DeepCutAuto
import Derived.Deep.CutBlock
namespace Go.Proofs.Ytneegcnidoopmaa
open Go.RowKit

def updF (F : Nat → Value) (k : Nat) (v : Value) (i : Nat) : Value := if i = k then v else F i
theorem updF_map (F : Nat → Value) (k : Nat) (v : Value) : (List.range (k + 1)).map (oneC (updF F k v)) = (List.range k).map (oneC F) ++ [[v]] := by
  rw [map_range_succ]
  congr 1
  · apply List.map_congr_left
    intro i hi
    have := List.mem_range.1 hi
    unfold oneC updF
    rw [if_neg (by omega)]
  · unfold oneC updF
    rw [if_pos rfl]
/-- The function values of the first k steps, in a world. -/
def Steps (w : World) (L : Nat → Stp) (k : Nat) (F : Nat → Value) : Prop := ∀ i, i < k → StepAtT w (F i) (L i).on ∧ (L i).n ≤ 40
theorem Steps.apart {w w1 : World} {L : Nat → Stp} {k : Nat} {F : Nat → Value} (h : Steps w L k F) (hb : Apart 69 w w1) : Steps w1 L k F := fun i hi => ⟨(h i hi).1.apart hb, (h i hi).2⟩
theorem Steps.succ {w : World} {L : Nat → Stp} {k : Nat} {F : Nat → Value} {v : Value} (h : Steps w L k F) (hv : StepAtT w v (L k).on) (hn : (L k).n ≤ 40) : Steps w L (k + 1) (updF F k v) := fun i hi => by
  by_cases e : i = k
  · subst e; unfold updF; rw [if_pos rfl]; exact ⟨hv, hn⟩
  · unfold updF; rw [if_neg e]; exact h i (by omega)

set_option maxRecDepth 100000 in
set_option maxHeartbeats 4000000 in
theorem steps_law (L : Nat → Stp) (W H : Int) (A : Option Addr) (n cap : Nat) (R G B : Nat → Int) (Al : Option Addr) (m capl : Nat) (C : Nat → Option Addr) (KK : Nat → Nat) (w : World) (hn : n ≤ 9223372036854775807) (hm : m ≤ 9223372036854775807) (hk : ∀ i, i < m → (L i).n ≤ 9223372036854775807)
    (hc : CellsH w A n R G B) (hl : CellsS w Al m C KK L) :
    Calls Try.prog 6 #[.agg #[.int .i64 W, .int .i64 H, .slice A n cap], .slice Al m capl] w fun e w' => e = .returned (.bool true) ∧ Grew w w' := by
  have HC := Lib.hid hc
  have HL := Lib.hid hl
  have HK := Lib.hid hk
  clear hc hl hk
  by_cases h20 : 2000 < n
  ·
    go_enter Try.func6, Try.ntmps6
    go_wp2_with (go_at_call 10; refine (awake39_any _).mono ?_; rintro e w' ⟨rfl, x0, rfl⟩)
    go_ret
    exact ⟨rfl, Grew.of (by repeat (first | assumption | exact gr_refl _ | refine gr_alloc ?_ _ | refine gr_drew ?_ | refine gr_drewN ?_ _ | refine gr_ext ?_ _ | (refine gr_set ?_ ?_ _; rotate_left; (simp <;> omega))))⟩
  have d20 : decide ((2000 : Int) < (n : Int)) = false := decide_eq_false (by omega)
  by_cases h21 : 20 < m
  ·
    go_enter Try.func6, Try.ntmps6
    go_wp2_with (go_at_call 10; refine (awake39_any _).mono ?_; rintro e w' ⟨rfl, x0, rfl⟩)
    go_ret
    exact ⟨rfl, Grew.of (by repeat (first | assumption | exact gr_refl _ | refine gr_alloc ?_ _ | refine gr_drew ?_ | refine gr_drewN ?_ _ | refine gr_ext ?_ _ | (refine gr_set ?_ ?_ _; rotate_left; (simp <;> omega))))⟩
  have d21 : decide ((20 : Int) < (m : Int)) = false := decide_eq_false (by omega)
  go_enter Try.func6, Try.ntmps6
  go_wp2
  go_loopw [5, 24] (fun v i wr => ∃ (k : Nat) (F : Nat → Value), k ≤ m ∧ i = .int .i64 k ∧ Below w.heap.size w wr ∧ Blk wr w.heap.size #[.int .i64 W, .int .i64 H, .slice A n cap] 63 ∧ Own wr (w.heap.size + 1) 69 1 v ((List.range k).map (oneC F)) ∧ Steps wr L k F) (fun _ i _ => m - (intOf i).toNat)
  case atStart => exact ⟨0, fun _ => .nilFunc, by omega, rfl, (by repeat (first | assumption | exact gr_refl _ | refine gr_alloc ?_ _ | refine gr_drew ?_ | refine gr_drewN ?_ _ | refine gr_ext ?_ _ | (refine gr_set ?_ ?_ _; rotate_left; (simp <;> omega)))), (by repeat (first | assumption | (refine Blk.at_ _ _ ?_; simp; done) | refine Blk.alloc ?_ _ | refine Blk.drew ?_ | refine Blk.ext ?_ _ | exact Blk.set (by assumption) _ _ | (refine Blk.other ?_ ?_ _; rotate_left; (simp <;> omega)))), Own.nil _ _ _ _, fun i hi => by omega⟩
  case round =>
    obtain ⟨k, F, hk, rfl, hb, hpar, hown, hst⟩ := hrel
    have l1 := hpar.lt
    have HP := Lib.hid hpar
    have HW := Lib.hid hown
    have HS := Lib.hid hst
    have HB := Lib.hid hb
    by_cases hlt : k < m
    · obtain ⟨bl, offl, rfl, hs⟩ := HL.out.1 (by omega)
      have hcv := HL.out.2 k hlt
      obtain ⟨s0, s1, s2, s3, s4, s5, s6⟩ := hs k hlt
      have t0 := cell_later hb s0
      have t1 := cell_later hb s1
      have t2 := cell_later hb s2
      have t3 := cell_later hb s3
      have t4 := cell_later hb s4
      have t5 := cell_later hb s5
      have t6 := cell_later hb s6
      have lbl := World.block_lt_of_cell? _ _ t0
      have HCV := Lib.hid (hcv.below hb)
      have hkm := HK.out k hlt
      clear hs hcv s0 s1 s2 s3 s4 s5 s6 hpar hown hst hb
      by_cases h40 : 40 < (L k).n
      · go_wp2_with (go_at_call 10; refine (awake39_any _).mono ?_; rintro e w' ⟨rfl, x0, rfl⟩)
        go_ret
        exact ⟨rfl, Grew.of (by have := HB.out; exact (by repeat (first | assumption | exact gr_refl _ | refine gr_alloc ?_ _ | refine gr_drew ?_ | refine gr_drewN ?_ _ | refine gr_ext ?_ _ | (refine gr_set ?_ ?_ _; rotate_left; (simp <;> omega)))))⟩
      · have d40 : decide ((40 : Int) < ((L k).n : Int)) = false := decide_eq_false (by omega)
        obtain ⟨wo, rfl⟩ : ∃ wo : World, wo = wr := ⟨_, rfl⟩
        go_wp2_with fail
        refine (step_any (L k) (C k) (KK k) _ (by omega) (HCV.out.below (by repeat (first | assumption | exact gr_refl _ | refine gr_alloc ?_ _ | refine gr_drew ?_ | refine gr_drewN ?_ _ | refine gr_ext ?_ _ | (refine gr_set ?_ ?_ _; rotate_left; (simp <;> omega)))))).mono ?_
        rintro e w1 ⟨fv, rfl, hfv, x1, rfl⟩
        have key := hfv.shape
        have HFV := Lib.hid hfv
        have hx1 := x1.size_val
        simp at hx1
        clear hfv
        rcases key with rfl | ⟨GF, caps, rfl⟩
        all_goals
          go_wp2_with (at_builtin; go_loud (refine own_append1 (w0 := w) rfl _ _ 65 rfl (w.heap.size + 1) 69 .nilFunc 1 8 Try.underlying65 (by kernel_rfl) rfl (by omega) _ _ rfl (((HW.out.alloc _).ext x1).alloc _) x1.val.heap.size [_] rfl (Blk.new _ _ _) rfl (by intro u hu; simp at hu; subst hu; exact HFV.out.weak.one) (by simp; omega) (by omega) (gr_alloc (gr_ext (gr_alloc HB.out _) x1) _) (by omega) (by simp; omega) ?_))
          intro v' w1 ho1 hb1 hg1
          rw [← updF_map] at ho1
          have ap1 := Apart.grown (((HW.out.alloc _).ext x1).alloc _) hg1
          have bp1 := ((((HP.out.alloc _).ext x1).alloc _).apart ap1 (by decide))
          have hs1 := (((HS.out.apart (Apart.of (gr_alloc (gr_refl _) _))).apart (Apart.of x1.below)).succ HFV.out (by omega)).apart ((Apart.of (gr_alloc (gr_refl _) _)).trans ap1)
          have HO1 := Lib.hid ho1
          have BP1 := Lib.hid bp1
          have HS1 := Lib.hid hs1
          have HB1 := Lib.hid hb1
          clear ho1 bp1 hs1 hb1 hg1 ap1
          go_wp2
          go_roundw
          case rel => exact ⟨k + 1, _, by omega, by go_num, HB1.out, BP1.out, HO1.out, HS1.out⟩
          case measure => simp [intOf]; omega
    · obtain rfl : m = k := by omega
      obtain ⟨As, caps, rfl, hcaps, h1s⟩ := hown.ones
      have hnil := fun hA => hown.nils hA
      have HN := Lib.hid hnil
      have C1 := Lib.hid h1s
      clear hpar hown hst hb HW hnil h1s
      have cp := HP.out.cell
      go_wp2_with fail
      refine (tosheet_any W H A n cap R G B _ (by omega) (HC.out.below HB.out)).mono ?_
      rintro e w1 ⟨v1, rfl, ho1, hb1⟩
      obtain ⟨A1, cap1, rfl, hcap1, hc1⟩ := ho1.hues
      have HC1 := Lib.hid hc1
      have HP1 := Lib.hid (HP.out.below hb1)
      have HB1 := Lib.hid (gr_below HB.out hb1)
      have HS1 := Lib.hid (fun i hi => ((HS.out i hi).1.weak).below hb1)
      have C2 := Lib.hid (C1.out.below hb1)
      clear ho1 hc1 hb1 cp
      go_wp2_with fail
      refine (chain_any L F As m caps _ (by omega) HN.out C2.out HS1.out).mono ?_
      rintro e w2 ⟨fv, rfl, hf, x2, rfl⟩
      obtain ⟨GF, capf, rfl⟩ : ∃ G c, fv = .func (.func G) #[] c := by obtain ⟨G, c, e, _⟩ := hf; exact ⟨G, c, e⟩
      have HF := Lib.hid hf
      have HC2 := Lib.hid (HC1.out.ext x2)
      have HP2 := Lib.hid (HP1.out.ext x2)
      have HB2 := Lib.hid (gr_ext HB1.out x2)
      clear hf
      cases hr : picB W H n with
      | false =>
        have HR := Lib.hid hr
        clear hr
        go_wp2_with fail
        refine (do_bad W H A1 n cap1 _ _ HR.out).mono ?_
        rintro e w' ⟨rfl, x3, rfl⟩
        have HP3 := Lib.hid (HP2.out.ext x3)
        have HB3 := Lib.hid (gr_ext HB2.out x3)
        have cp := HP3.out.cell
        have lp := HP3.out.lt
        go_wp2_with fail
        refine (tosheet_any W H A n cap R G B _ (by omega) (HC.out.below (gr_alloc HB3.out _))).mono ?_
        rintro e w4 ⟨v4, rfl, ho4, hb4⟩
        obtain ⟨A4, cap4, rfl, hcap4, hc4⟩ := ho4.hues
        have HP4 := Lib.hid ((HP3.out.alloc _).below hb4)
        have HB4 := Lib.hid (gr_below (gr_alloc HB3.out _) hb4)
        have HQ4 := Lib.hid (Blk.below (Blk.new x3.val #[.int .i64 0, .int .i64 0, .slice none 0 0] 73) hb4)
        clear ho4 hc4 hb4 cp lp
        go_wp2_with fail
        refine (do_bad W H A4 n cap4 _ _ HR.out).mono ?_
        rintro e w' ⟨rfl, x5, rfl⟩
        have HP5 := Lib.hid (HP4.out.ext x5)
        have HB5 := Lib.hid (gr_ext HB4.out x5)
        have HQ5 := Lib.hid (HQ4.out.ext x5)
        have cp := HP5.out.cell
        have lp := HP5.out.lt
        go_wp2_with fail
        refine (rsheet_right_any _ _ _ _ _ _).mono ?_
        rintro e w' ⟨rfl, x6, rfl⟩
        rw [HR.out]
        have HB6 := Lib.hid (gr_ext (gr_alloc HB5.out _) x6)
        have HQ6 := Lib.hid ((HQ5.out.alloc _).ext x6)
        clear cp lp
        go_wp2_with fail
        refine (awake39_any _).mono ?_
        rintro e w' ⟨rfl, x7, rfl⟩
        have HQ7 := Lib.hid (HQ6.out.ext x7)
        have cq := HQ7.out.cell
        have lq := HQ7.out.lt
        go_wp2
        go_ret
        exact ⟨rfl, Grew.of (gr_ext HB6.out x7)⟩
      | true =>
        have HR := Lib.hid hr
        clear hr
        go_wp2_with fail
        refine (do_any (fun h => chainF L h m) _ W H A1 n cap1 R G B _ HR.out HC2.out HF.out).mono ?_
        rintro e w3 ⟨v3, rfl, ho3, hb3⟩
        obtain ⟨A3, cap3, rfl, hcap3, hc3⟩ := ho3.hues
        have HC3 := Lib.hid hc3
        have HP3 := Lib.hid (HP2.out.below hb3)
        have HB3 := Lib.hid (gr_below HB2.out hb3)
        clear ho3 hc3 hb3
        have cp := HP3.out.cell
        have lp := HP3.out.lt
        go_wp2_with fail
        refine (tosheet_any W H A n cap R G B _ (by omega) (HC.out.below (gr_alloc HB3.out _))).mono ?_
        rintro e w4 ⟨v4, rfl, ho4, hb4⟩
        obtain ⟨A4, cap4, rfl, hcap4, hc4⟩ := ho4.hues
        have HP4 := Lib.hid ((HP3.out.alloc _).below hb4)
        have HB4 := Lib.hid (gr_below (gr_alloc HB3.out _) hb4)
        have HC4 := Lib.hid ((HC3.out.below (gr_alloc (gr_refl _) _)).below hb4)
        have HQ4 := Lib.hid (Blk.below (Blk.new w3 #[.int .i64 W, .int .i64 H, .slice A3 n cap3] 73) hb4)
        clear ho4 hc4 hb4 cp lp
        go_wp2_with fail
        refine (do_nil W H A4 n cap4 _ HR.out).mono ?_
        rintro e w' ⟨rfl, x5, rfl⟩
        have HP5 := Lib.hid (HP4.out.ext x5)
        have HB5 := Lib.hid (gr_ext HB4.out x5)
        have HQ5 := Lib.hid (HQ4.out.ext x5)
        have HC5 := Lib.hid (HC4.out.ext x5)
        have cp := HP5.out.cell
        have lp := HP5.out.lt
        go_wp2_with fail
        refine (rsheet_right_any _ _ _ _ _ _).mono ?_
        rintro e w' ⟨rfl, x6, rfl⟩
        rw [HR.out]
        have HP6 := Lib.hid ((HP5.out.alloc _).ext x6)
        have HB6 := Lib.hid (gr_ext (gr_alloc HB5.out _) x6)
        have HQ6 := Lib.hid ((HQ5.out.alloc _).ext x6)
        have HC6 := Lib.hid ((HC5.out.below (gr_alloc (gr_refl _) _)).ext x6)
        clear cp lp HP1 HP2 HP3 HP4 HP5 HB1 HB2 HB3 HB4 HB5 HQ4 HQ5 HC3 HC4 HC5
        go_wp2_with fail
        have hfam : Fam x6.val [(w3.heap.size, #[.int .i64 W, .int .i64 H, .slice A3 n cap3], 73), (w.heap.size, #[.int .i64 W, .int .i64 H, .slice A n cap], 63)] x6.val :=
          Fam.cons (Fam.cons ⟨gr_refl _, fun p hp => by cases hp⟩ HP6.out) HQ6.out
        obtain ⟨LL, eL⟩ : ∃ LL : List (Nat × Array Value × TypeId), LL = [(w3.heap.size, #[.int .i64 W, .int .i64 H, .slice A3 n cap3], 73), (w.heap.size, #[.int .i64 W, .int .i64 H, .slice A n cap], 63)] := ⟨_, rfl⟩
        rw [← eL] at hfam
        have g8 : ∀ w', Fam x6.val LL w' → Blk w' w3.heap.size #[.int .i64 W, .int .i64 H, .slice A3 n cap3] 73 := fun w' h => h.get (by rw [eL]; simp)
        have g2 : ∀ w', Fam x6.val LL w' → Blk w' w.heap.size #[.int .i64 W, .int .i64 H, .slice A n cap] 63 := fun w' h => h.get (by rw [eL]; simp)
        have out : ∀ w', Fam x6.val LL w' → FamS x6.val LL w' ∧ w'.cell? ⟨w3.heap.size, 0, none⟩ = some (.int .i64 W) ∧ w'.cell? ⟨w3.heap.size, 1, none⟩ = some (.int .i64 H) ∧ w'.cell? ⟨w3.heap.size, 2, none⟩ = some (.slice A3 n cap3) ∧ w'.cell? ⟨w.heap.size, 0, none⟩ = some (.int .i64 W) ∧ w'.cell? ⟨w.heap.size, 1, none⟩ = some (.int .i64 H) ∧ w'.cell? ⟨w.heap.size, 2, none⟩ = some (.slice A n cap) := fun w' h =>
          ⟨h, by rw [(g8 w' h).cell]; rfl, by rw [(g8 w' h).cell]; rfl, by rw [(g8 w' h).cell]; rfl, by rw [(g2 w' h).cell]; rfl, by rw [(g2 w' h).cell]; rfl, by rw [(g2 w' h).cell]; rfl⟩
        have OUT := Lib.hid out
        have FG := Lib.hid hfam
        have HS40 := Lib.hid (fun i (hi : i < m) => (show (L i).n ≤ 1000000 by have := (HS.out i hi).2; omega))
        have HCW := Lib.hid (HC.out.below HB6.out)
        have HLW := Lib.hid (HL.out.below HB6.out)
        clear hfam g8 g2 out eL HP6 HQ6
        go_region_held3 (fun w' => FamS x6.val LL w' ∧ w'.cell? ⟨w3.heap.size, 0, none⟩ = some (.int .i64 W) ∧ w'.cell? ⟨w3.heap.size, 1, none⟩ = some (.int .i64 H) ∧ w'.cell? ⟨w3.heap.size, 2, none⟩ = some (.slice A3 n cap3) ∧ w'.cell? ⟨w.heap.size, 0, none⟩ = some (.int .i64 W) ∧ w'.cell? ⟨w.heap.size, 1, none⟩ = some (.int .i64 H) ∧ w'.cell? ⟨w.heap.size, 2, none⟩ = some (.slice A n cap)) (first | exact OUT.out _ (FG.out.drew) | exact OUT.out _ ((Fam.back (by assumption)).below (by assumption)) | exact OUT.out _ ((Fam.back (by assumption)).ext _))
          (first | (go_at_call 10; refine (awake39_any _).mono ?_; rintro e w' ⟨rfl, xa, rfl⟩) | (go_at_call 37; refine (fromsheet_any W H A3 n cap3 _ _ _ _ (by omega) (HC6.out.below (Fam.bel (Fam.back (by assumption))))).mono ?_; rintro e w' ⟨v7, rfl, ho7, hb7⟩; obtain ⟨A7, cap7, rfl, hcap7, hcl7⟩ := ho7.hues) | (go_at_call 38; refine (rsheet_any L W H A n cap R G B Al m capl C KK _ (by omega) (by omega) HS40.out (HCW.out.below (Fam.bel (Fam.back (by assumption)))) (HLW.out.below (Fam.bel (Fam.back (by assumption))))).mono ?_; rintro e w' ⟨v8, rfl, ho8, hb8⟩; obtain ⟨A8, cap8, rfl, hcap8, hcl8⟩ := ho8.hues) | (go_at_call 36; refine (sheetsame_any W H A7 A8 n cap7 cap8 _ _ _ _ (by omega) (by first | exact hcl7 | exact hcl7.below hb8) (by first | exact hcl8 | exact hcl8.below hb7)).mono ?_; rintro e w' ⟨rfl, xs, rfl⟩))
        all_goals go_wp2
        all_goals go_ret
        all_goals exact ⟨rfl, Grew.of (gr_below HB6.out (Fam.bel (Fam.back (by assumption))))⟩
end Go.Proofs.Ytneegcnidoopmaa
