/- LaceLevels and LaceSmooths: the walks, over what a level, or all of them, hand back. Conditions: the rows lie behind their slices; the sizes named; the table of taps is as laid. -/
import Derived.Test.YtneegcnidoopmaaDoorLn
import Derived.Test.YtneegcnidoopmaaDoorGs
import Derived.Deep.DeepCutAuto
import Derived.Deep.CutBlock
namespace Go.Proofs.YtneegcnidoopmaaDoor
open Go.RowKit

theorem FilmVal.below {w w1 : World} {W H : Int} {nL nD nN nB nS nF : Nat} {R G B D NX NY NZ BR BG BB S F : Nat → Int} {v : Value} (h : FilmVal w W H nL nD nN nB nS nF R G B D NX NY NZ BR BG BB S F v) (hb : Below w.heap.size w w1) : FilmVal w1 W H nL nD nN nB nS nF R G B D NX NY NZ BR BG BB S F v := by
  obtain ⟨vL, vD, vN, vB, vS, vF, e, h1, h2, h3, h4, h5, h6⟩ := h
  exact ⟨vL, vD, vN, vB, vS, vF, e, h1.below hb, h2.below hb, h3.below hb, h4.below hb, h5.below hb, h6.below hb⟩
theorem SheetRow.mono {W H : Int} {T n : Nat} {R G B : Nat → Int} : MonoG (SheetRow W H T n R G B) := fun v w w' h hb => by
  obtain ⟨A, cap, e, hc, ht⟩ := h
  exact ⟨A, cap, e, hc.below hb, fun hn => (ht hn).below hb⟩
/-- A sheet and an error's number. -/
def LevR (T : TypeId) (XW XH : Int) (n : Nat) (U V Z : Nat → Int) (c : Int) (v : Value) (w : World) : Prop := ∃ A cap, v = .tuple #[.agg #[.int .i64 XW, .int .i64 XH, .slice A n cap], .int .i64 c] ∧ CellsH w A n U V Z ∧ (0 < n → TypA w A T)
theorem LevR.mono {T : TypeId} {XW XH : Int} {n : Nat} {U V Z : Nat → Int} {c : Int} : MonoG (LevR T XW XH n U V Z c) := fun v w w' h hb => by
  obtain ⟨A, cap, e, hc, ht⟩ := h
  exact ⟨A, cap, e, hc.below hb, fun hn => (ht hn).below hb⟩
def ZeroSheet (m : Nat) (v : Value) (w : World) : Prop := ∃ b, v = .pointer (some ⟨b, 0, none⟩) ∧ m ≤ b ∧ Blk w b #[.int .i64 0, .int .i64 0, .slice none 0 0] 36
theorem ZeroSheet.mono {m : Nat} : MonoG (ZeroSheet m) := fun v w w' h hb => by
  obtain ⟨b, e, hm, hz⟩ := h
  exact ⟨b, e, hm, hz.below hb⟩
/-- .. comes back. -/
def RetR (w : World) (T : TypeId) (XW XH : Int) (n : Nat) (U V Z : Nat → Int) (c : Int) (e : Ending) (w' : World) : Prop := ∃ v, e = .returned v ∧ LevR T XW XH n U V Z c v w' ∧ Below w.heap.size w w'
theorem TypA.notIn {w : World} {A : Option Addr} {T T2 : TypeId} {b : Nat} {c : Array Value} (h : TypA w A T) (hT : T ≠ T2) (hb : Blk w b c T2) : NotIn A b := by
  rintro a ha e
  obtain ⟨c', h1⟩ := h a ha
  rw [e, hb.heap] at h1
  injection h1 with h1
  injection h1 with _ h2
  exact hT h2.symm
/-- A store into another variable. -/
theorem CellsH.grown1 {w w1 : World} {A : Option Addr} {n b : Nat} {R G B : Nat → Int} (h : CellsH w A n R G B) (hg : w.grownBy w1 (some b)) (hni : 0 < n → NotIn A b) : CellsH w1 A n R G B := by
  intro h0
  obtain ⟨b', off, rfl, hc⟩ := h h0
  have hne : b' ≠ b := hni h0 _ rfl
  have hlt : b' < w.heap.size := World.block_lt_of_cell? _ _ (hc 0 h0).1
  have key : ∀ o, w1.cell? ⟨b', o, none⟩ = w.cell? ⟨b', o, none⟩ := fun o => World.cell?_of_block (a := ⟨b', o, none⟩) (hg.block b' hlt (by simpa using hne))
  exact ⟨b', off, rfl, fun i hi => ⟨(key _).trans (hc i hi).1, (key _).trans (hc i hi).2.1, (key _).trans (hc i hi).2.2⟩⟩

set_option maxRecDepth 100000 in
set_option maxHeartbeats 8000000 in
theorem levels_walk (W H : Int) (AL AD AN AB AS AF : Option Addr) (nL cL nD cD nN cN nB cB nS cS nF cF : Nat) (R G B D NX NY NZ BR BG BB S F : Nat → Int) (W2 H2 : Int) (A2 : Option Addr) (n2 c2 : Nat) (R2 G2 B2 : Nat → Int) (lv : Int) (w : World)
    (XW XH : Int) (n : Nat) (U V Z : Nat → Int) (c : Int) (hn6 : n ≤ 1000000) (hl : lightB nL nS n2 = true)
    (rD : nD * 8 ≤ 140737488355328) (rN : nN * 24 ≤ 140737488355328) (rB : nB * 24 ≤ 140737488355328) (rS : nS * 8 ≤ 140737488355328) (rF : nF * 8 ≤ 140737488355328) (hT : TapsIn w)
    (hL : CellsH w AL nL R G B) (hD : CellsI w AD nD D) (hN : CellsH w AN nN NX NY NZ) (hB : CellsH w AB nB BR BG BB) (hS : CellsI w AS nS S) (hF : CellsI w AF nF F) (hL2 : CellsH w A2 n2 R2 G2 B2) (nilS : AS = none → nS = 0 ∧ cS = 0) (nilF : AF = none → nF = 0 ∧ cF = 0)
    (hP : ∀ wz, Below w.heap.size w wz → ∀ v1 v3, FilmVal wz W H nL nD nN nB nS nF R G B D NX NY NZ BR BG BB S F v1 → SheetRow W2 H2 58 n2 R2 G2 B2 v3 wz → Calls Tryd.prog 8 #[v1, v3, .int .i64 lv] wz (RetR wz 58 XW XH n U V Z c))
    (hR : ∀ wz, Below w.heap.size w wz → Calls Tryd.prog 11 #[.agg #[.int .i64 W, .int .i64 H, .slice AL nL cL, .slice AD nD cD, .slice AN nN cN, .slice AB nB cB, .slice AS nS cS, .slice AF nF cF], .agg #[.int .i64 W2, .int .i64 H2, .slice A2 n2 c2], .int .i64 lv] wz (RetR wz 54 XW XH n U V Z c)) :
    Calls Tryd.prog 3 #[.agg #[.int .i64 W, .int .i64 H, .slice AL nL cL, .slice AD nD cD, .slice AN nN cN, .slice AB nB cB, .slice AS nS cS, .slice AF nF cF], .agg #[.int .i64 W2, .int .i64 H2, .slice A2 n2 c2], .int .i64 lv] w fun e w' => e = .returned (.bool true) ∧ Grew w w' := by
  obtain ⟨hl1, hl2, hl3⟩ : nL ≤ 100 ∧ nS ≤ 100 ∧ n2 ≤ 100 := of_decide_eq_true hl
  have HL := Lib.hid hL
  have HD := Lib.hid hD
  have HN := Lib.hid hN
  have HB := Lib.hid hB
  have HS := Lib.hid hS
  have HF := Lib.hid hF
  have HL2 := Lib.hid hL2
  have NS := Lib.hid nilS
  have NF := Lib.hid nilF
  have HT := Lib.hid hT
  have HP := Lib.hid hP
  have HR := Lib.hid hR
  have HLI := Lib.hid hl
  clear hL hD hN hB hS hF hL2 nilS nilF hT hP hR hl
  go_enter Tryd.func3, Tryd.ntmps3
  go_wp2_with fail
  refine (light_any _ _ _ _ _ _ _ _ _ _ _ _ _ _ _ _ _ _ _ _ _ _ _ _ _ _).mono ?_
  rintro e w' ⟨rfl, x1, rfl⟩
  rw [HLI.out]
  have s1 := x1.size_val
  simp at s1
  have l1 : w.heap.size < x1.val.heap.size := by omega
  have l2 : w.heap.size + 1 < x1.val.heap.size := by omega
  have par : ∀ w1, Below x1.val.drew.heap.size x1.val.drew w1 → Below w.heap.size w w1 ∧ Blk w1 w.heap.size #[.int .i64 W, .int .i64 H, .slice AL nL cL, .slice AD nD cD, .slice AN nN cN, .slice AB nB cB, .slice AS nS cS, .slice AF nF cF] 29 ∧ Blk w1 (w.heap.size + 1) #[.int .i64 W2, .int .i64 H2, .slice A2 n2 c2] 24 :=
    fun w1 hb => ⟨gr_below (by repeat (first | assumption | exact gr_refl _ | refine gr_alloc ?_ _ | refine gr_drew ?_ | refine gr_drewN ?_ _ | refine gr_ext ?_ _ | (refine gr_set ?_ ?_ _; rotate_left; (simp <;> omega)))) hb, Blk.below (by repeat (first | assumption | (refine Blk.at_ _ _ ?_; simp; done) | refine Blk.alloc ?_ _ | refine Blk.drew ?_ | refine Blk.ext ?_ _ | exact Blk.set (by assumption) _ _ | (refine Blk.other ?_ ?_ _; rotate_left; (simp <;> omega)))) hb, Blk.below (by repeat (first | assumption | (refine Blk.at_ _ _ ?_; simp; done) | refine Blk.alloc ?_ _ | refine Blk.drew ?_ | refine Blk.ext ?_ _ | exact Blk.set (by assumption) _ _ | (refine Blk.other ?_ ?_ _; rotate_left; (simp <;> omega)))) hb⟩
  have PAR := Lib.hid par
  clear par
  go_upto_region 3 with fail
  go_cut [7, 8] (fun sx se wx => ∃ (bx : Nat) (A5 : Option Addr) (c5 : Nat), sx = .pointer (some ⟨bx, 0, none⟩) ∧ se = .int .i64 c ∧ Below w.heap.size w wx ∧ Blk wx w.heap.size #[.int .i64 W, .int .i64 H, .slice AL nL cL, .slice AD nD cD, .slice AN nN cN, .slice AB nB cB, .slice AS nS cS, .slice AF nF cF] 29 ∧ Blk wx (w.heap.size + 1) #[.int .i64 W2, .int .i64 H2, .slice A2 n2 c2] 24 ∧ Blk wx bx #[.int .i64 XW, .int .i64 XH, .slice A5 n c5] 36 ∧ CellsH wx A5 n U V Z)
  case first =>
   refine wp_region_growP 10 8 [[], [0], [], [2], [], [1, 3, 4], [5], [6], [6], []]
    [Is (.agg #[.int .i64 W, .int .i64 H, .slice AL nL cL, .slice AD nD cD, .slice AN nN cN, .slice AB nB cB, .slice AS nS cS, .slice AF nF cF]), fun v w => FilmVal w W H nL nD nN nB nS nF R G B D NX NY NZ BR BG BB S F v, Is (.agg #[.int .i64 W2, .int .i64 H2, .slice A2 n2 c2]), SheetRow W2 H2 58 n2 R2 G2 B2, Is (.int .i64 lv), LevR 58 XW XH n U V Z c, LevR 58 XW XH n U V Z c, SheetRow XW XH 58 n U V Z, Is (.int .i64 c), ZeroSheet (w.heap.size + 1 + 1)]
    (by kernel_rfl) (by kernel_rfl) ?_ ?_ ?_ ?_
   · intro f hf
     simp only [List.mem_cons, List.not_mem_nil, or_false] at hf
     rcases hf with rfl | rfl | rfl | rfl | rfl | rfl | rfl | rfl | rfl | rfl
     all_goals first | exact MonoG.is _ | exact fun v w w' h hb => FilmVal.below h hb | exact SheetRow.mono | exact LevR.mono | exact ZeroSheet.mono
   · simp only [List.take_succ_cons, List.take_zero]
     refine ⟨?_, ?_, ?_, ?_, ?_, ?_, ?_, ?_, ?_, ?_, trivial⟩
     ·
       intro w1 vs hb hd
       simp only [List.getD_cons_zero, virt, List.not_mem_nil, false_implies, implies_true] at hd ⊢
       obtain ⟨hbw, hpf, hps⟩ := PAR.out _ hb
       have cp := hpf.cell
       clear hb hd hbw hps
       go_wp2
       exact ⟨_, rfl, rfl, gr_refl _⟩
     ·
       intro w1 vs hb hd
       simp only [Nat.zero_add, List.getD_cons_zero, List.getD_cons_succ, virt, dstOf, List.getElem?_toArray, List.getElem?_cons_zero, Option.bind_some, Act.put, List.setIfInBounds_toArray, List.set_cons_zero, List.set_cons_succ, List.mem_cons, List.not_mem_nil, or_false, forall_eq] at hd ⊢
       obtain ⟨hbw, hpf, hps⟩ := PAR.out _ hb
       have h0 : vs 0 = _ := hd
       rw [h0]
       have HBW := Lib.hid hbw
       clear hb hd h0 hbw hpf hps
       go_wp2_with fail
       refine (to_any W H AL AD AN AB AS AF nL cL nD cD nN cN nB cB nS cS nF cF R G B D NX NY NZ BR BG BB S F _ (by omega) rD rN rB rS rF (HL.out.below HBW.out) (HD.out.below HBW.out) (HN.out.below HBW.out) (HB.out.below HBW.out) (HS.out.below HBW.out) (HF.out.below HBW.out) NS.out NF.out).mono ?_
       rintro e w' ⟨v, rfl, hv, hb1, _⟩
       go_wp2
       exact ⟨_, rfl, hv, hb1⟩
     ·
       intro w1 vs hb hd
       simp only [Nat.zero_add, List.getD_cons_zero, List.getD_cons_succ, virt, List.not_mem_nil, false_implies, implies_true] at hd ⊢
       obtain ⟨hbw, hpf, hps⟩ := PAR.out _ hb
       have cp := hps.cell
       clear hb hd hbw hpf
       go_wp2
       exact ⟨_, rfl, rfl, gr_refl _⟩
     ·
       intro w1 vs hb hd
       simp only [Nat.zero_add, List.getD_cons_zero, List.getD_cons_succ, virt, dstOf, List.getElem?_toArray, List.getElem?_cons_zero, List.getElem?_cons_succ, Option.bind_some, Act.put, List.setIfInBounds_toArray, List.set_cons_zero, List.set_cons_succ, List.mem_cons, List.not_mem_nil, or_false, forall_eq] at hd ⊢
       obtain ⟨hbw, hpf, hps⟩ := PAR.out _ hb
       have h0 : vs 2 = _ := hd
       rw [h0]
       have HBW := Lib.hid hbw
       clear hb hd h0 hbw hpf hps
       go_wp2_with fail
       refine (tosheet_any W2 H2 A2 n2 c2 R2 G2 B2 _ (by omega) (HL2.out.below HBW.out)).mono ?_
       rintro e w' ⟨v, rfl, ho, hb1⟩
       obtain ⟨A', cap', rfl, hcap, hc'⟩ := ho.hues
       go_wp2
       exact ⟨_, rfl, ⟨A', cap', rfl, hc', fun _ => ho.typ⟩, hb1⟩
     ·
       intro w1 vs hb hd
       simp only [Nat.zero_add, List.getD_cons_zero, List.getD_cons_succ, virt, List.not_mem_nil, false_implies, implies_true] at hd ⊢
       go_wp2
       exact ⟨_, rfl, rfl, gr_refl _⟩
     ·
       intro w1 vs hb hd
       simp only [Nat.zero_add, List.getD_cons_zero, List.getD_cons_succ, virt, dstOf, List.getElem?_toArray, List.getElem?_cons_zero, List.getElem?_cons_succ, Option.bind_some, Act.put, List.setIfInBounds_toArray, List.set_cons_zero, List.set_cons_succ, List.mem_cons, List.not_mem_nil, or_false, forall_eq_or_imp, forall_eq] at hd ⊢
       obtain ⟨hbw, hpf, hps⟩ := PAR.out _ hb
       obtain ⟨h1, h3, h4⟩ := hd
       have h4 : vs 4 = _ := h4
       rw [h4]
       have H1 := Lib.hid h1
       have H3 := Lib.hid h3
       have HBW := Lib.hid hbw
       generalize vs 1 = v1 at *
       generalize vs 3 = v3 at *
       clear hb h4 hbw hpf hps h1 h3
       go_wp2_with fail
       refine (HP.out _ HBW.out v1 v3 H1.out H3.out).mono ?_
       rintro e w' ⟨v, rfl, hv, hb1⟩
       go_wp2
       exact ⟨_, rfl, hv, hb1⟩
     ·
       intro w1 vs hb hd
       simp only [Nat.zero_add, List.getD_cons_zero, List.getD_cons_succ, virt, dstOf, List.getElem?_toArray, List.getElem?_cons_zero, List.getElem?_cons_succ, Option.bind_some, Act.put, List.setIfInBounds_toArray, List.set_cons_zero, List.set_cons_succ, List.mem_cons, List.not_mem_nil, or_false, forall_eq] at hd ⊢
       have H5 := Lib.hid hd
       clear hb hd
       go_wp2
       exact ⟨_, rfl, H5.out, gr_refl _⟩
     ·
       intro w1 vs hb hd
       simp only [Nat.zero_add, List.getD_cons_zero, List.getD_cons_succ, virt, dstOf, List.getElem?_toArray, List.getElem?_cons_zero, List.getElem?_cons_succ, Option.bind_some, Act.put, List.setIfInBounds_toArray, List.set_cons_zero, List.set_cons_succ, List.mem_cons, List.not_mem_nil, or_false, forall_eq] at hd ⊢
       obtain ⟨A5, c5, h5, hc5⟩ := hd
       have HC5 := Lib.hid hc5
       rw [h5]
       clear hb h5 hc5
       go_wp2
       exact ⟨_, rfl, ⟨A5, c5, rfl, HC5.out.1, HC5.out.2⟩, gr_refl _⟩
     ·
       intro w1 vs hb hd
       simp only [Nat.zero_add, List.getD_cons_zero, List.getD_cons_succ, virt, dstOf, List.getElem?_toArray, List.getElem?_cons_zero, List.getElem?_cons_succ, Option.bind_some, Act.put, List.setIfInBounds_toArray, List.set_cons_zero, List.set_cons_succ, List.mem_cons, List.not_mem_nil, or_false, forall_eq] at hd ⊢
       obtain ⟨A5, c5, h5, hc5⟩ := hd
       rw [h5]
       clear hb h5 hc5
       go_wp2
       exact ⟨_, rfl, rfl, gr_refl _⟩
     ·
       intro w1 vs hb hd
       simp only [Nat.zero_add, List.getD_cons_zero, List.getD_cons_succ, virt, List.not_mem_nil, false_implies, implies_true] at hd ⊢
       have hs := hb.size
       simp at hs
       go_wp2
       exact ⟨_, rfl, ⟨_, rfl, by omega, Blk.new _ _ _⟩, gr_alloc (gr_refl _) _⟩
   · intro w1 vs hb hf
     obtain ⟨A6, c6, h6, _, _⟩ := hf 6 (by omega)
     obtain ⟨A5, c5, h7, hc5, ht5⟩ := hf 7 (by omega)
     have h8 : vs 8 = _ := hf 8 (by omega)
     obtain ⟨bx, h9, hbx, hz⟩ := hf 9 (by omega)
     rw [show List.range 10 = [0, 1, 2, 3, 4, 5, 6, 7, 8, 9] from rfl]
     simp only [opsAt, List.size_toArray, List.length_cons, List.length_nil, List.range', List.filterMap_cons, List.filterMap_nil, List.getElem?_toArray, List.getElem?_cons_succ, List.getElem?_cons_zero, Nat.reduceAdd, Nat.reduceSub]
     simp only [virt, dstOf, List.getElem?_toArray, List.getElem?_cons_zero, List.getElem?_cons_succ, Option.bind_some, Act.put, List.setIfInBounds_toArray, List.set_cons_zero, List.set_cons_succ]
     rw [h6, h7, h8, h9]
     obtain ⟨hbw, hpf, hps⟩ := PAR.out _ hb
     have HBW := Lib.hid hbw
     have HPF := Lib.hid hpf
     have HPS := Lib.hid hps
     have HZ := Lib.hid hz
     have HC5 := Lib.hid hc5
     have HT5 := Lib.hid ht5
     clear hb hf h6 h7 h8 h9 hbw hpf hps hz hc5 ht5 PAR
     refine wpList_store_blk (w0 := w) rfl 36 _ _ rfl bx _ rfl rfl 36 _ HZ.out (by kernel_rfl) (by kernel_rfl) (by kernel_rfl) HBW.out (by omega) ?_
     intro w2 hbl hbw2 hg2
     have HX := Lib.hid hbl
     have HBW2 := Lib.hid hbw2
     have HPF2 := Lib.hid (HPF.out.grown hg2 (by simp; omega))
     have HPS2 := Lib.hid (HPS.out.grown hg2 (by simp; omega))
     have HC2 := Lib.hid (HC5.out.grown1 hg2 fun hn => (HT5.out hn).notIn (by decide) HZ.out)
     clear hbl hbw2 hg2
     go_wp2
     go_meet
     exact ⟨bx, A5, c5, rfl, rfl, HBW2.out, HPF2.out, HPS2.out, HX.out, HC2.out⟩
   · intro w1 vs hb hf
     refine ⟨?_, ?_⟩
     ·
      obtain ⟨A6, c6, h6, _, _⟩ := hf 6 (by omega) (by omega)
      obtain ⟨A5, c5, h7, hc5, ht5⟩ := hf 7 (by omega) (by omega)
      obtain ⟨bx, h9, hbx, hz⟩ := hf 9 (by omega) (by omega)
      rw [show ((List.range 10).filter (· ≠ 8)) = [0, 1, 2, 3, 4, 5, 6, 7, 9] from rfl]
      simp only [opsAt, List.size_toArray, List.length_cons, List.length_nil, List.range', List.filterMap_cons, List.filterMap_nil, List.getElem?_toArray, List.getElem?_cons_succ, List.getElem?_cons_zero, Nat.reduceAdd, Nat.reduceSub]
      simp only [virt, dstOf, List.getElem?_toArray, List.getElem?_cons_zero, List.getElem?_cons_succ, Option.bind_some, Act.put, List.setIfInBounds_toArray, List.set_cons_zero, List.set_cons_succ]
      rw [h6, h7, h9]
      obtain ⟨hbw, hpf, hps⟩ := PAR.out _ hb
      have HBW := Lib.hid hbw
      have HPF := Lib.hid hpf
      have HPS := Lib.hid hps
      have HZ := Lib.hid hz
      have HC5 := Lib.hid hc5
      have HT5 := Lib.hid ht5
      clear hb hf h6 h7 h9 hbw hpf hps hz hc5 ht5 PAR
      first | go_guarded | skip
      go_step
      go_step
      refine wpList_store_blk (w0 := w) rfl 36 _ _ rfl bx _ rfl rfl 36 _ HZ.out (by kernel_rfl) (by kernel_rfl) (by kernel_rfl) HBW.out ?_ ?_
      · omega
      intro w2 hbl hbw2 hg2
      have HX := Lib.hid hbl
      have HBW2 := Lib.hid hbw2
      have HPF2 := Lib.hid (HPF.out.grown hg2 (by simp; omega))
      have HPS2 := Lib.hid (HPS.out.grown hg2 (by simp; omega))
      have HC2 := Lib.hid (HC5.out.grown1 hg2 fun hn => (HT5.out hn).notIn (by decide) HZ.out)
      clear hbl hbw2 hg2
      go_wp2
      go_meet
      exact ⟨bx, A5, c5, rfl, rfl, HBW2.out, HPF2.out, HPS2.out, HX.out, HC2.out⟩
     ·
      obtain ⟨A6, c6, h6, _, _⟩ := hf 6 (by omega) (by omega)
      obtain ⟨A5, c5, h7, hc5, ht5⟩ := hf 7 (by omega) (by omega)
      obtain ⟨bx, h9, hbx, hz⟩ := hf 9 (by omega) (by omega)
      rw [show ((List.range 10).filter (· ≠ 8)) = [0, 1, 2, 3, 4, 5, 6, 7, 9] from rfl]
      simp only [opsAt, List.size_toArray, List.length_cons, List.length_nil, List.range', List.filterMap_cons, List.filterMap_nil, List.getElem?_toArray, List.getElem?_cons_succ, List.getElem?_cons_zero, Nat.reduceAdd, Nat.reduceSub]
      simp only [virt, dstOf, List.getElem?_toArray, List.getElem?_cons_zero, List.getElem?_cons_succ, Option.bind_some, Act.put, List.setIfInBounds_toArray, List.set_cons_zero, List.set_cons_succ]
      rw [h6, h7, h9]
      obtain ⟨hbw, hpf, hps⟩ := PAR.out _ hb
      have HBW := Lib.hid hbw
      have HPF := Lib.hid hpf
      have HPS := Lib.hid hps
      have HZ := Lib.hid hz
      have HC5 := Lib.hid hc5
      have HT5 := Lib.hid ht5
      clear hb hf h6 h7 h9 hbw hpf hps hz hc5 ht5 PAR
      refine wpList_store_blk (w0 := w) rfl 36 _ _ rfl bx _ rfl rfl 36 _ HZ.out (by kernel_rfl) (by kernel_rfl) (by kernel_rfl) HBW.out (by omega) ?_
      intro w2 hbl hbw2 hg2
      have HX := Lib.hid hbl
      have HBW2 := Lib.hid hbw2
      have HPF2 := Lib.hid (HPF.out.grown hg2 (by simp; omega))
      have HPS2 := Lib.hid (HPS.out.grown hg2 (by simp; omega))
      have HC2 := Lib.hid (HC5.out.grown1 hg2 fun hn => (HT5.out hn).notIn (by decide) HZ.out)
      clear hbl hbw2 hg2
      go_wp2
      go_meet
      exact ⟨bx, A5, c5, rfl, rfl, HBW2.out, HPF2.out, HPS2.out, HX.out, HC2.out⟩
  case rest =>
    obtain ⟨bx, A5, c5, rfl, rfl, hbw2, hpf2, hps2, hbl, hc2⟩ := hcut
    have HX := Lib.hid hbl
    have HBW2 := Lib.hid hbw2
    have HPF2 := Lib.hid hpf2
    have HPS2 := Lib.hid hps2
    have HC2 := Lib.hid hc2
    have cf := HPF2.out.cell
    have cs := HPS2.out.cell
    have lf := HPF2.out.lt
    have ls := HPS2.out.lt
    clear hbl hbw2 hpf2 hps2 hc2 PAR
    go_wp2_with fail
    refine (HR.out _ HBW2.out).mono ?_
    rintro e w3 ⟨v, rfl, ⟨A8, c8, rfl, hc8, _⟩, hb3⟩
    have HX3 := Lib.hid (HX.out.below hb3)
    have HBW3 := Lib.hid (gr_below HBW2.out hb3)
    have HC3 := Lib.hid (HC2.out.below hb3)
    have HC8 := Lib.hid hc8
    have par5 : ∀ w1, Below (w3.alloc (.cells #[.int .i64 XW, .int .i64 XH, .slice A8 n c8] 24)).drew.heap.size (w3.alloc (.cells #[.int .i64 XW, .int .i64 XH, .slice A8 n c8] 24)).drew w1 →
        Below w.heap.size w w1 ∧ Blk w1 bx #[.int .i64 XW, .int .i64 XH, .slice A5 n c5] 36 ∧ Blk w1 w3.heap.size #[.int .i64 XW, .int .i64 XH, .slice A8 n c8] 24 ∧ CellsH w1 A5 n U V Z ∧ CellsH w1 A8 n U V Z :=
      fun w1 hb => ⟨gr_below (gr_drew (gr_alloc HBW3.out _)) hb, ((HX3.out.alloc _).drew).below hb, ((Blk.new _ _ _).drew).below hb, (HC3.out.below (gr_drew (gr_alloc (gr_refl _) _))).below hb, (HC8.out.below (gr_drew (gr_alloc (gr_refl _) _))).below hb⟩
    have PAR5 := Lib.hid par5
    clear par5 hc8 hb3 cf cs lf ls HX3 HC3 HC8 HPF2 HPS2 HC2 HX
    go_wp2
    refine wp_region_grow 12 [[], [0], [1], [1], [2, 3, 1], [1, 4], [5], [6], [7, 6], [6], [8, 9, 6], [6, 10]]
      [Is (.bool true), Is (.bool true), Is (.int .i64 c), Is (.int .i64 c), Is (.bool true), Is (.bool true), Is (.bool true), Is (.agg #[.int .i64 XW, .int .i64 XH, .slice A5 n c5]), SheetRow XW XH 54 n U V Z, Is (.agg #[.int .i64 XW, .int .i64 XH, .slice A8 n c8]), Is (.bool true), Is (.bool true)]
      (by kernel_rfl) (by kernel_rfl) ?_ ?_ ?_
    · intro f hf
      simp only [List.mem_cons, List.not_mem_nil, or_false] at hf
      rcases hf with rfl | rfl | rfl | rfl | rfl | rfl | rfl | rfl | rfl | rfl | rfl | rfl
      all_goals first | exact MonoG.is _ | exact SheetRow.mono
    · simp only [List.take_succ_cons, List.take_zero]
      refine ⟨?_, ?_, ?_, ?_, ?_, ?_, ?_, ?_, ?_, ?_, ?_, ?_, trivial⟩
      ·
        intro w1 vs hb hd
        simp only [List.getD_cons_zero, virt, List.not_mem_nil, false_implies, implies_true] at hd ⊢
        obtain ⟨hbw, _, _, _, _⟩ := PAR5.out _ hb
        have HBW := Lib.hid hbw
        clear hb hbw
        go_wp2_with fail
        refine (awake20_any _ (HT.out.below HBW.out)).mono ?_
        rintro e w' ⟨rfl, x9, rfl⟩
        go_wp2
        exact ⟨_, rfl, rfl, x9.below⟩
      ·
        intro w1 vs hb hd
        simp only [Nat.zero_add, List.getD_cons_zero, List.getD_cons_succ, virt, dstOf, List.getElem?_toArray, List.getElem?_cons_zero, Option.bind_some, Act.put, List.setIfInBounds_toArray, List.set_cons_zero, List.set_cons_succ, List.mem_cons, List.not_mem_nil, or_false, forall_eq] at hd ⊢
        have h0 := hd
        have h0 : vs 0 = _ := h0
        simp only [h0]
        clear h0
        go_wp2
        exact ⟨_, rfl, rfl, gr_refl _⟩
      ·
        intro w1 vs hb hd
        simp only [Nat.zero_add, List.getD_cons_zero, List.getD_cons_succ, virt, dstOf, List.getElem?_toArray, List.getElem?_cons_zero, List.getElem?_cons_succ, Option.bind_some, Act.put, List.setIfInBounds_toArray, List.set_cons_zero, List.set_cons_succ, List.mem_cons, List.not_mem_nil, or_false, forall_eq] at hd ⊢
        have h1 := hd
        have h1 : vs 1 = _ := h1
        simp only [h1]
        clear h1
        go_wp2
        exact ⟨_, rfl, rfl, gr_refl _⟩
      ·
        intro w1 vs hb hd
        simp only [Nat.zero_add, List.getD_cons_zero, List.getD_cons_succ, virt, dstOf, List.getElem?_toArray, List.getElem?_cons_zero, List.getElem?_cons_succ, Option.bind_some, Act.put, List.setIfInBounds_toArray, List.set_cons_zero, List.set_cons_succ, List.mem_cons, List.not_mem_nil, or_false, forall_eq] at hd ⊢
        have h1 := hd
        have h1 : vs 1 = _ := h1
        simp only [h1]
        clear h1
        go_wp2
        exact ⟨_, rfl, rfl, gr_refl _⟩
      ·
        intro w1 vs hb hd
        simp only [Nat.zero_add, List.getD_cons_zero, List.getD_cons_succ, virt, dstOf, List.getElem?_toArray, List.getElem?_cons_zero, List.getElem?_cons_succ, Option.bind_some, Act.put, List.setIfInBounds_toArray, List.set_cons_zero, List.set_cons_succ, List.mem_cons, List.not_mem_nil, or_false, forall_eq_or_imp, forall_eq] at hd ⊢
        obtain ⟨h2, h3, h1⟩ := hd
        have h2 : vs 2 = _ := h2
        have h3 : vs 3 = _ := h3
        have h1 : vs 1 = _ := h1
        simp only [h2, h3, h1]
        clear h2 h3 h1
        go_wp2
        exact ⟨_, rfl, rfl, gr_refl _⟩
      ·
        intro w1 vs hb hd
        simp only [Nat.zero_add, List.getD_cons_zero, List.getD_cons_succ, virt, dstOf, List.getElem?_toArray, List.getElem?_cons_zero, List.getElem?_cons_succ, Option.bind_some, Act.put, List.setIfInBounds_toArray, List.set_cons_zero, List.set_cons_succ, List.mem_cons, List.not_mem_nil, or_false, forall_eq_or_imp, forall_eq] at hd ⊢
        obtain ⟨h1, h4⟩ := hd
        have h1 : vs 1 = _ := h1
        have h4 : vs 4 = _ := h4
        simp only [h1, h4]
        clear h1 h4
        go_wp2
        exact ⟨_, rfl, rfl, gr_refl _⟩
      ·
        intro w1 vs hb hd
        simp only [Nat.zero_add, List.getD_cons_zero, List.getD_cons_succ, virt, dstOf, List.getElem?_toArray, List.getElem?_cons_zero, List.getElem?_cons_succ, Option.bind_some, Act.put, List.setIfInBounds_toArray, List.set_cons_zero, List.set_cons_succ, List.mem_cons, List.not_mem_nil, or_false, forall_eq] at hd ⊢
        have h5 := hd
        have h5 : vs 5 = _ := h5
        simp only [h5]
        clear h5
        go_wp2
        exact ⟨_, rfl, rfl, gr_refl _⟩
      ·
        intro w1 vs hb hd
        simp only [Nat.zero_add, List.getD_cons_zero, List.getD_cons_succ, virt, dstOf, List.getElem?_toArray, List.getElem?_cons_zero, List.getElem?_cons_succ, Option.bind_some, Act.put, List.setIfInBounds_toArray, List.set_cons_zero, List.set_cons_succ, List.mem_cons, List.not_mem_nil, or_false, forall_eq] at hd ⊢
        obtain ⟨_, hx, _, _, _⟩ := PAR5.out _ hb
        have cx := hx.cell
        have h6 := hd
        have h6 : vs 6 = _ := h6
        simp only [h6]
        clear h6
        clear hb hx
        go_wp2
        exact ⟨_, rfl, rfl, gr_refl _⟩
      ·
        intro w1 vs hb hd
        simp only [Nat.zero_add, List.getD_cons_zero, List.getD_cons_succ, virt, dstOf, List.getElem?_toArray, List.getElem?_cons_zero, List.getElem?_cons_succ, Option.bind_some, Act.put, List.setIfInBounds_toArray, List.set_cons_zero, List.set_cons_succ, List.mem_cons, List.not_mem_nil, or_false, forall_eq_or_imp, forall_eq] at hd ⊢
        obtain ⟨_, _, _, hxc, _⟩ := PAR5.out _ hb
        obtain ⟨h7, h6⟩ := hd
        have h7 : vs 7 = _ := h7
        have h6 : vs 6 = _ := h6
        simp only [h7, h6]
        clear h7 h6
        have HXC := Lib.hid hxc
        clear hb hxc
        go_wp2_with fail
        refine (fromsheet_any XW XH A5 n c5 U V Z _ hn6 HXC.out).mono ?_
        rintro e w' ⟨v, rfl, ho, hb1⟩
        obtain ⟨A', cap', rfl, hcap, hc'⟩ := ho.hues
        go_wp2
        exact ⟨_, rfl, ⟨A', cap', rfl, hc', fun _ => ho.typ⟩, hb1⟩
      ·
        intro w1 vs hb hd
        simp only [Nat.zero_add, List.getD_cons_zero, List.getD_cons_succ, virt, dstOf, List.getElem?_toArray, List.getElem?_cons_zero, List.getElem?_cons_succ, Option.bind_some, Act.put, List.setIfInBounds_toArray, List.set_cons_zero, List.set_cons_succ, List.mem_cons, List.not_mem_nil, or_false, forall_eq] at hd ⊢
        obtain ⟨_, _, hy, _, _⟩ := PAR5.out _ hb
        have cy := hy.cell
        have h6 := hd
        have h6 : vs 6 = _ := h6
        simp only [h6]
        clear h6
        clear hb hy
        go_wp2
        exact ⟨_, rfl, rfl, gr_refl _⟩
      ·
        intro w1 vs hb hd
        simp only [Nat.zero_add, List.getD_cons_zero, List.getD_cons_succ, virt, dstOf, List.getElem?_toArray, List.getElem?_cons_zero, List.getElem?_cons_succ, Option.bind_some, Act.put, List.setIfInBounds_toArray, List.set_cons_zero, List.set_cons_succ, List.mem_cons, List.not_mem_nil, or_false, forall_eq_or_imp, forall_eq] at hd ⊢
        obtain ⟨_, _, _, _, hyc⟩ := PAR5.out _ hb
        obtain ⟨⟨A10, c10, h8, hc10, _⟩, h9, h6⟩ := hd
        have h9 : vs 9 = _ := h9
        have h6 : vs 6 = _ := h6
        simp only [h8, h9, h6]
        have HC10 := Lib.hid hc10
        have HYC := Lib.hid hyc
        clear hb hyc h8 h9 h6 hc10
        go_wp2_with fail
        refine (sheetsame_any XW XH A10 A8 n c10 c8 U V Z _ hn6 HC10.out HYC.out).mono ?_
        rintro e w' ⟨rfl, x9, rfl⟩
        go_wp2
        exact ⟨_, rfl, rfl, x9.below⟩
      ·
        intro w1 vs hb hd
        simp only [Nat.zero_add, List.getD_cons_zero, List.getD_cons_succ, virt, dstOf, List.getElem?_toArray, List.getElem?_cons_zero, List.getElem?_cons_succ, Option.bind_some, Act.put, List.setIfInBounds_toArray, List.set_cons_zero, List.set_cons_succ, List.mem_cons, List.not_mem_nil, or_false, forall_eq_or_imp, forall_eq] at hd ⊢
        obtain ⟨h6, h10⟩ := hd
        have h6 : vs 6 = _ := h6
        have h10 : vs 10 = _ := h10
        simp only [h6, h10]
        clear h6 h10
        go_wp2
        exact ⟨_, rfl, rfl, gr_refl _⟩
    · intro w1 vs hb hf
      have h11 : vs 11 = _ := hf 11 (by omega)
      rw [show List.range 12 = [0, 1, 2, 3, 4, 5, 6, 7, 8, 9, 10, 11] from rfl]
      simp only [virt, dstOf, List.getElem?_toArray, List.getElem?_cons_zero, List.getElem?_cons_succ, Option.bind_some, Act.put, List.setIfInBounds_toArray, List.set_cons_zero, List.set_cons_succ, List.drop_succ_cons, List.drop_zero]
      rw [h11]
      have HBW9 := Lib.hid (PAR5.out _ hb).1
      clear hb hf h11
      go_wp2
      go_ret
      exact ⟨rfl, Grew.of HBW9.out⟩
end Go.Proofs.YtneegcnidoopmaaDoor
