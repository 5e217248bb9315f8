/- Contracts of lace.Smooth and ref20.Smooth. Conditions: the rows lie behind their slices; the table of taps is as laid. -/
import Derived.Test.YtneegcnidoopmaaDoorLk
namespace Go.Proofs.YtneegcnidoopmaaDoor
open Go.RowKit

def envOf (f : Flm) (W H : Int) (T : Nat → Int × Int × Int) (l : Nat) : Env := ⟨f, fun i => (T i).1, fun i => (T i).2.1, fun i => (T i).2.2, l, W, H⟩
/-- A sheet's lights, smoothed at l levels. -/
def smo (f : Flm) (W H : Int) (Z : Nat → Int × Int × Int) : Nat → Nat → Int × Int × Int
  | 0 => Z
  | l + 1 => fun i => (envOf f W H (smo f W H Z l) l).at i
/-- A sheet of these lights, and no error. -/
def RetLights (w : World) (T : TypeId) (W H : Int) (n : Nat) (Z : Nat → Int × Int × Int) (e : Ending) (w' : World) : Prop :=
  ∃ A cap, e = .returned (.tuple #[.agg #[.int .i64 W, .int .i64 H, .slice A n cap], .int .i64 0]) ∧ CellsH w' A n (fun i => (Z i).1) (fun i => (Z i).2.1) (fun i => (Z i).2.2) ∧ TypA w' A T ∧ Below w.heap.size w w'
def NotIn (A : Option Addr) (b : Nat) : Prop := ∀ a, A = some a → a.block ≠ b
theorem NotIn.of {A : Option Addr} {n cap b : Nat} (h : (Value.slice A n cap).ownBlock ≠ some b) : NotIn A b := by
  rintro a rfl e
  exact h (by simp [Value.ownBlock, e])
theorem CellsH.notIn {w : World} {A : Option Addr} {n b : Nat} {R G B : Nat → Int} (h : CellsH w A n R G B) (hn : 0 < n) (hb : w.heap.size ≤ b) : NotIn A b := by
  obtain ⟨b', off, rfl, hc⟩ := h hn
  rintro a ha e
  injection ha with ha
  subst ha
  have := World.block_lt_of_cell? _ _ (hc 0 hn).1
  simp only at this e
  omega
theorem CellsH.other {w : World} {A : Option Addr} {n : Nat} {R G B : Nat → Int} (h : CellsH w A n R G B) {a : Addr} (hn : NotIn A a.block) (v : Value) : CellsH (w.setCell a v) A n R G B := by
  intro h0
  obtain ⟨b, off, rfl, hc⟩ := h h0
  have hne : b ≠ a.block := hn _ rfl
  have key : ∀ o, (w.setCell a v).cell? ⟨b, o, none⟩ = w.cell? ⟨b, o, none⟩ := fun o => World.cell?_of_block (a := ⟨b, o, none⟩) (Below.heap_setCell _ _ _ _ hne)
  exact ⟨b, off, rfl, fun i hi => ⟨(key _).trans (hc i hi).1, (key _).trans (hc i hi).2.1, (key _).trans (hc i hi).2.2⟩⟩
theorem TypA.set {w : World} {A : Option Addr} {T T2 : TypeId} {b : Nat} {c : Array Value} (h : TypA w A T) (hT : T ≠ T2) (hb : Blk w b c T2) {o : Nat} (v : Value) : TypA (w.setCell ⟨b, o, none⟩ v) A T := fun a ha => by
  obtain ⟨c', e⟩ := h a ha
  refine ⟨c', (Below.heap_setCell _ _ _ _ (fun e' => ?_)).trans e⟩
  have e' : a.block = b := e'
  rw [e', hb.heap] at e
  injection e with e
  injection e with _ e
  exact hT e.symm
theorem Own.cellsH {w : World} {base T : Nat} {A : Option Addr} {n cap : Nat} {R G B : Nat → Int} (h : Own w base T 3 (.slice A n cap) ((List.range n).map (hueC R G B))) : CellsH w A n R G B := by
  obtain ⟨A', cap', e, _, hc⟩ := h.hues
  injection e with e1 _ _
  rw [e1]
  exact hc

set_option maxRecDepth 100000 in
set_option maxHeartbeats 4000000 in
theorem smooth_bad (W H : Int) (AL AD AN AB AS AF : Option Addr) (nL cL nD cD nN cN nB cB nS cS nF cF : Nat) (S F : Nat → Int) (W2 H2 : Int) (A2 : Option Addr) (n2 c2 : Nat) (w : World) (hS : CellsI w AS nS S) (hF : CellsI w AF nF F) (hno : ¬ LevOk W H nL nD nN nB nS nF S F W2 H2 n2 0) :
    Calls Tryd.prog 14 #[.agg #[.int .i64 W, .int .i64 H, .slice AL nL cL, .slice AD nD cD, .slice AN nN cN, .slice AB nB cB, .slice AS nS cS, .slice AF nF cF], .agg #[.int .i64 W2, .int .i64 H2, .slice A2 n2 c2]] w (RetLevBad w) := by
  have HS := Lib.hid hS
  have HF := Lib.hid hF
  have NO := Lib.hid hno
  clear hS hF hno
  go_enter Tryd.func14, Tryd.ntmps14
  go_wp2
  refine wp_loop_rounds 1 ?_
  rw [rounds_succ]
  go_wp2_with fail
  refine (level_bad W H AL AD AN AB AS AF nL cL nD cD nN cN nB cB nS cS nF cF S F W2 H2 A2 n2 c2 0 _ (HS.out.below (by repeat (first | assumption | exact gr_refl _ | refine gr_alloc ?_ _ | refine gr_drew ?_ | refine gr_drewN ?_ _ | refine gr_ext ?_ _ | (refine gr_set ?_ ?_ _; rotate_left; (simp <;> omega))))) (HF.out.below (by repeat (first | assumption | exact gr_refl _ | refine gr_alloc ?_ _ | refine gr_drew ?_ | refine gr_drewN ?_ _ | refine gr_ext ?_ _ | (refine gr_set ?_ ?_ _; rotate_left; (simp <;> omega))))) NO.out).mono ?_
  rintro e w' ⟨rfl, x1, rfl⟩
  have s1 := x1.size_val
  simp at s1
  have l1 : w.heap.size < x1.val.heap.size := by omega
  have l2 : w.heap.size + 1 < x1.val.heap.size := by omega
  have l3 : w.heap.size + 1 + 1 < x1.val.heap.size := by omega
  go_wp2
  refine bodyPost_ret (v := .tuple #[.agg #[.int .i64 0, .int .i64 0, .slice none 0 0], .int .i64 1]) (by simp [results, Tryd.results14, go_sem]) rfl ⟨rfl, Grew.of ?_⟩
  have hb0 : Below w.heap.size w x1.val := (by repeat (first | assumption | exact gr_refl _ | refine gr_alloc ?_ _ | refine gr_drew ?_ | refine gr_drewN ?_ _ | refine gr_ext ?_ _ | (refine gr_set ?_ ?_ _; rotate_left; (simp <;> omega))))
  exact gr_set (gr_set (gr_set (gr_set (gr_set (gr_set hb0 (by simp) _) (by simp) _) (by simp) _) (by simp; omega) _) (by simp; omega) _) (by simp; omega) _

set_option maxRecDepth 100000 in
set_option maxHeartbeats 4000000 in
theorem smooth_any (f : Flm) (W H : Int) (Z : Nat → Int × Int × Int) (S F : Nat → Int) (hf : f.sh = S) (AL AD AN AB AS AF A2 : Option Addr) (nL cL cD cN cB cS cF c2 n : Nat) (w : World) (hok : filmB W H nL n n n n n S F = true) (hp : picB W H n = true)
    (hT : TapsIn w) (hS : CellsI w AS n S) (hF : CellsI w AF n F) (hD : CellsI w AD n f.d) (hN : CellsH w AN n f.nx f.ny f.nz) (hL : CellsH w A2 n (fun i => (Z i).1) (fun i => (Z i).2.1) (fun i => (Z i).2.2)) :
    Calls Tryd.prog 14 #[.agg #[.int .i64 W, .int .i64 H, .slice AL nL cL, .slice AD n cD, .slice AN n cN, .slice AB n cB, .slice AS n cS, .slice AF n cF], .agg #[.int .i64 W, .int .i64 H, .slice A2 n c2]] w
      (RetLights w 58 W H n (smo f W H Z 5)) := by
  have HT := Lib.hid hT
  have HS := Lib.hid hS
  have HF := Lib.hid hF
  have HD := Lib.hid hD
  have HN := Lib.hid hN
  have HL := Lib.hid hL
  have H1 := Lib.hid hok
  have H2 := Lib.hid hp
  have HFS := Lib.hid hf
  clear hT hS hF hD hN hL hok hp hf
  go_enter Tryd.func14, Tryd.ntmps14
  go_wp2
  go_loopw [8] (fun i wr => ∃ (l : Nat) (Ak : Option Addr) (ck : Nat), l ≤ 5 ∧ i = .int .i64 l ∧ Below w.heap.size w wr ∧ Blk wr w.heap.size #[.int .i64 W, .int .i64 H, .slice AL nL cL, .slice AD n cD, .slice AN n cN, .slice AB n cB, .slice AS n cS, .slice AF n cF] 43 ∧ Blk wr (w.heap.size + 1) #[.int .i64 W, .int .i64 H, .slice Ak n ck] 36 ∧ Blk wr (w.heap.size + 1 + 1) #[.int .i64 0, .int .i64 0, .slice none 0 0] 36 ∧
      CellsH wr Ak n (fun i => (smo f W H Z l i).1) (fun i => (smo f W H Z l i).2.1) (fun i => (smo f W H Z l i).2.2) ∧ NotIn Ak (w.heap.size + 1 + 1) ∧ (0 < l → TypA wr Ak 58)) (fun i _ => 5 - (intOf i).toNat)
  case atStart => exact ⟨0, A2, c2, by omega, rfl, (by repeat (first | assumption | exact gr_refl _ | refine gr_alloc ?_ _ | refine gr_drew ?_ | refine gr_drewN ?_ _ | refine gr_ext ?_ _ | (refine gr_set ?_ ?_ _; rotate_left; (simp <;> omega)))), (by repeat (first | assumption | (refine Blk.at_ _ _ ?_; simp; done) | refine Blk.alloc ?_ _ | refine Blk.drew ?_ | refine Blk.ext ?_ _ | exact Blk.set (by assumption) _ _ | (refine Blk.other ?_ ?_ _; rotate_left; (simp <;> omega)))), (by repeat (first | assumption | (refine Blk.at_ _ _ ?_; simp; done) | refine Blk.alloc ?_ _ | refine Blk.drew ?_ | refine Blk.ext ?_ _ | exact Blk.set (by assumption) _ _ | (refine Blk.other ?_ ?_ _; rotate_left; (simp <;> omega)))), (by repeat (first | assumption | (refine Blk.at_ _ _ ?_; simp; done) | refine Blk.alloc ?_ _ | refine Blk.drew ?_ | refine Blk.ext ?_ _ | exact Blk.set (by assumption) _ _ | (refine Blk.other ?_ ?_ _; rotate_left; (simp <;> omega)))), HL.out.below (by repeat (first | assumption | exact gr_refl _ | refine gr_alloc ?_ _ | refine gr_drew ?_ | refine gr_drewN ?_ _ | refine gr_ext ?_ _ | (refine gr_set ?_ ?_ _; rotate_left; (simp <;> omega)))), HL.out.notIn (by have := (picB_len H2.out).1; omega) (by omega), fun h => by omega⟩
  case round =>
    obtain ⟨l, Ak, ck, hk, rfl, hb, hfi, hsh, hres, hcl, hni, hty⟩ := hrel
    have m1 := hfi.lt
    have m2 := hsh.lt
    have m3 := hres.lt
    have cfi := hfi.cell
    have csh := hsh.cell
    have cr := hres.cell
    have fr := hres.frozen
    have HFI := Lib.hid hfi
    have HSH := Lib.hid hsh
    have HR := Lib.hid hres
    have HC := Lib.hid hcl
    have HBE := Lib.hid hb
    by_cases hlt : l < 5
    · clear hfi hsh hres hcl hb
      go_wp2_with fail
      refine (level_any (envOf f W H (smo f W H Z l) l) (by show l ≤ 4; omega) S F HFS.out AL AD AN AB AS AF Ak nL cL cD cN cB cS cF ck n _ H1.out H2.out (HT.out.below HBE.out) (HS.out.below HBE.out) (HF.out.below HBE.out) (HD.out.below HBE.out) (HN.out.below HBE.out) HC.out).mono ?_
      rintro en w' ⟨v, rfl, ho, hb1⟩
      obtain ⟨A', cap', rfl, hcap, hc'⟩ := ho.hues
      have HF2 := Lib.hid (HFI.out.below hb1)
      have HS2 := Lib.hid (HSH.out.below hb1)
      have HR2 := Lib.hid (HR.out.below hb1)
      have HB2 := Lib.hid (gr_below HBE.out hb1)
      have N1 := Lib.hid (ho.ne_blk HS2.out (by decide))
      have N2 := Lib.hid (ho.ne_blk HR2.out (by decide))
      have HO := Lib.hid ho
      have c2s := HS2.out.cell
      have f2s := HS2.out.frozen
      have m4 := HS2.out.lt
      have wf : (envOf f W H (smo f W H Z l) l).W = W := rfl
      have hf' : (envOf f W H (smo f W H Z l) l).H = H := rfl
      rw [wf, hf']
      clear ho hb1 hc' wf hf' cfi csh cr fr
      go_wp2
      go_roundw
      case rel =>
        refine ⟨l + 1, A', cap', by omega, by go_num, gr_set (gr_set (gr_set HB2.out (by simp) _) (by simp) _) (by simp) _, ((HF2.out.other (by simp) _).other (by simp) _).other (by simp) _, ((HS2.out.set 0 _).set 1 _).set 2 _, ((HR2.out.other (by simp) _).other (by simp) _).other (by simp) _, ?_⟩
        exact ⟨(((HO.out.other N1.out _).other N1.out _).other N1.out _).cellsH, NotIn.of N2.out, fun _ => (((HO.out.other N1.out _).other N1.out _).other N1.out _).typ⟩
      case measure => simp [intOf]; omega
    · obtain rfl : l = 5 := by omega
      clear hfi hsh hres hcl hb
      go_wp2
      refine bodyPost_ret (v := .tuple #[.agg #[.int .i64 W, .int .i64 H, .slice Ak n ck], .int .i64 0]) (by simp [results, Tryd.results14, go_sem, cr]) rfl ⟨Ak, ck, rfl, ((HC.out.other hni _).other hni _).other hni _, (((hty (by omega)).set (by decide) HR.out _).set (by decide) (HR.out.set _ _) _).set (by decide) ((HR.out.set _ _).set _ _) _, gr_set (gr_set (gr_set HBE.out (by simp; omega) _) (by simp; omega) _) (by simp; omega) _⟩

set_option maxRecDepth 100000 in
set_option maxHeartbeats 4000000 in
theorem rsmooth_bad (W H : Int) (AL AD AN AB AS AF : Option Addr) (nL cL nD cD nN cN nB cB nS cS nF cF : Nat) (S F : Nat → Int) (W2 H2 : Int) (A2 : Option Addr) (n2 c2 : Nat) (w : World) (hS : CellsI w AS nS S) (hF : CellsI w AF nF F) (hno : ¬ LevOk W H nL nD nN nB nS nF S F W2 H2 n2 0) :
    Calls Tryd.prog 15 #[.agg #[.int .i64 W, .int .i64 H, .slice AL nL cL, .slice AD nD cD, .slice AN nN cN, .slice AB nB cB, .slice AS nS cS, .slice AF nF cF], .agg #[.int .i64 W2, .int .i64 H2, .slice A2 n2 c2]] w (RetLevBad w) := by
  have HS := Lib.hid hS
  have HF := Lib.hid hF
  have NO := Lib.hid hno
  clear hS hF hno
  go_enter Tryd.func15, Tryd.ntmps15
  go_wp2
  refine wp_loop_rounds 1 ?_
  rw [rounds_succ]
  go_wp2_with fail
  refine (rlevel_bad W H AL AD AN AB AS AF nL cL nD cD nN cN nB cB nS cS nF cF S F W2 H2 A2 n2 c2 0 _ (HS.out.below (by repeat (first | assumption | exact gr_refl _ | refine gr_alloc ?_ _ | refine gr_drew ?_ | refine gr_drewN ?_ _ | refine gr_ext ?_ _ | (refine gr_set ?_ ?_ _; rotate_left; (simp <;> omega))))) (HF.out.below (by repeat (first | assumption | exact gr_refl _ | refine gr_alloc ?_ _ | refine gr_drew ?_ | refine gr_drewN ?_ _ | refine gr_ext ?_ _ | (refine gr_set ?_ ?_ _; rotate_left; (simp <;> omega))))) NO.out).mono ?_
  rintro e w' ⟨rfl, x1, rfl⟩
  have s1 := x1.size_val
  simp at s1
  have l1 : w.heap.size < x1.val.heap.size := by omega
  have l2 : w.heap.size + 1 < x1.val.heap.size := by omega
  have l3 : w.heap.size + 1 + 1 < x1.val.heap.size := by omega
  go_wp2
  refine bodyPost_ret (v := .tuple #[.agg #[.int .i64 0, .int .i64 0, .slice none 0 0], .int .i64 1]) (by simp [results, Tryd.results15, go_sem, l3]) rfl ⟨rfl, Grew.of ?_⟩
  have hb0 : Below w.heap.size w x1.val := (by repeat (first | assumption | exact gr_refl _ | refine gr_alloc ?_ _ | refine gr_drew ?_ | refine gr_drewN ?_ _ | refine gr_ext ?_ _ | (refine gr_set ?_ ?_ _; rotate_left; (simp <;> omega))))
  exact gr_alloc (gr_set (gr_set (gr_set hb0 (by simp; omega) _) (by simp; omega) _) (by simp; omega) _) _

set_option maxRecDepth 100000 in
set_option maxHeartbeats 4000000 in
theorem rsmooth_any (f : Flm) (W H : Int) (Z : Nat → Int × Int × Int) (S F : Nat → Int) (hf : f.sh = S) (AL AD AN AB AS AF A2 : Option Addr) (nL cL cD cN cB cS cF c2 n : Nat) (w : World) (hok : filmB W H nL n n n n n S F = true) (hp : picB W H n = true)
    (hS : CellsI w AS n S) (hF : CellsI w AF n F) (hD : CellsI w AD n f.d) (hN : CellsH w AN n f.nx f.ny f.nz) (hL : CellsH w A2 n (fun i => (Z i).1) (fun i => (Z i).2.1) (fun i => (Z i).2.2)) :
    Calls Tryd.prog 15 #[.agg #[.int .i64 W, .int .i64 H, .slice AL nL cL, .slice AD n cD, .slice AN n cN, .slice AB n cB, .slice AS n cS, .slice AF n cF], .agg #[.int .i64 W, .int .i64 H, .slice A2 n c2]] w
      (RetLights w 54 W H n (smo f W H Z 5)) := by
  have HS := Lib.hid hS
  have HF := Lib.hid hF
  have HD := Lib.hid hD
  have HN := Lib.hid hN
  have HL := Lib.hid hL
  have H1 := Lib.hid hok
  have H2 := Lib.hid hp
  have HFS := Lib.hid hf
  clear hS hF hD hN hL hok hp hf
  go_enter Tryd.func15, Tryd.ntmps15
  go_wp2
  go_loopw [6] (fun i wr => ∃ (l : Nat) (Ak : Option Addr) (ck : Nat), l ≤ 5 ∧ i = .int .i64 l ∧ Below w.heap.size w wr ∧ Blk wr w.heap.size #[.int .i64 W, .int .i64 H, .slice AL nL cL, .slice AD n cD, .slice AN n cN, .slice AB n cB, .slice AS n cS, .slice AF n cF] 29 ∧ Blk wr (w.heap.size + 1) #[.int .i64 W, .int .i64 H, .slice Ak n ck] 24 ∧ Blk wr (w.heap.size + 1 + 1) #[.int .i64 0, .int .i64 0, .slice none 0 0] 24 ∧
      CellsH wr Ak n (fun i => (smo f W H Z l i).1) (fun i => (smo f W H Z l i).2.1) (fun i => (smo f W H Z l i).2.2) ∧ NotIn Ak (w.heap.size + 1 + 1) ∧ (0 < l → TypA wr Ak 54)) (fun i _ => 5 - (intOf i).toNat)
  case atStart => exact ⟨0, A2, c2, by omega, rfl, (by repeat (first | assumption | exact gr_refl _ | refine gr_alloc ?_ _ | refine gr_drew ?_ | refine gr_drewN ?_ _ | refine gr_ext ?_ _ | (refine gr_set ?_ ?_ _; rotate_left; (simp <;> omega)))), (by repeat (first | assumption | (refine Blk.at_ _ _ ?_; simp; done) | refine Blk.alloc ?_ _ | refine Blk.drew ?_ | refine Blk.ext ?_ _ | exact Blk.set (by assumption) _ _ | (refine Blk.other ?_ ?_ _; rotate_left; (simp <;> omega)))), (by repeat (first | assumption | (refine Blk.at_ _ _ ?_; simp; done) | refine Blk.alloc ?_ _ | refine Blk.drew ?_ | refine Blk.ext ?_ _ | exact Blk.set (by assumption) _ _ | (refine Blk.other ?_ ?_ _; rotate_left; (simp <;> omega)))), (by repeat (first | assumption | (refine Blk.at_ _ _ ?_; simp; done) | refine Blk.alloc ?_ _ | refine Blk.drew ?_ | refine Blk.ext ?_ _ | exact Blk.set (by assumption) _ _ | (refine Blk.other ?_ ?_ _; rotate_left; (simp <;> omega)))), HL.out.below (by repeat (first | assumption | exact gr_refl _ | refine gr_alloc ?_ _ | refine gr_drew ?_ | refine gr_drewN ?_ _ | refine gr_ext ?_ _ | (refine gr_set ?_ ?_ _; rotate_left; (simp <;> omega)))), HL.out.notIn (by have := (picB_len H2.out).1; omega) (by omega), fun h => by omega⟩
  case round =>
    obtain ⟨l, Ak, ck, hk, rfl, hb, hfi, hsh, hres, hcl, hni, hty⟩ := hrel
    have m1 := hfi.lt
    have m2 := hsh.lt
    have m3 := hres.lt
    have cfi := hfi.cell
    have csh := hsh.cell
    have cr := hres.cell
    have fr := hres.frozen
    have HFI := Lib.hid hfi
    have HSH := Lib.hid hsh
    have HR := Lib.hid hres
    have HC := Lib.hid hcl
    have HBE := Lib.hid hb
    by_cases hlt : l < 5
    · clear hfi hsh hres hcl hb
      go_wp2_with fail
      refine (rlevel_any (envOf f W H (smo f W H Z l) l) (by show l ≤ 4; omega) S F HFS.out AL AD AN AB AS AF Ak nL cL cD cN cB cS cF ck n _ H1.out H2.out (HS.out.below HBE.out) (HF.out.below HBE.out) (HD.out.below HBE.out) (HN.out.below HBE.out) HC.out).mono ?_
      rintro en w' ⟨v, rfl, ho, hb1⟩
      obtain ⟨A', cap', rfl, hcap, hc'⟩ := ho.hues
      have HF2 := Lib.hid (HFI.out.below hb1)
      have HS2 := Lib.hid (HSH.out.below hb1)
      have HR2 := Lib.hid (HR.out.below hb1)
      have HB2 := Lib.hid (gr_below HBE.out hb1)
      have N1 := Lib.hid (ho.ne_blk HS2.out (by decide))
      have N2 := Lib.hid (ho.ne_blk HR2.out (by decide))
      have HO := Lib.hid ho
      have c2s := HS2.out.cell
      have f2s := HS2.out.frozen
      have m4 := HS2.out.lt
      have wf : (envOf f W H (smo f W H Z l) l).W = W := rfl
      have hf' : (envOf f W H (smo f W H Z l) l).H = H := rfl
      rw [wf, hf']
      clear ho hb1 hc' wf hf' cfi csh cr fr
      go_wp2
      go_roundw
      case rel =>
        refine ⟨l + 1, A', cap', by omega, by go_num, gr_alloc (gr_set (gr_set (gr_set HB2.out (by simp) _) (by simp) _) (by simp) _) _, (((HF2.out.other (by simp) _).other (by simp) _).other (by simp) _).alloc _, (((HS2.out.set 0 _).set 1 _).set 2 _).alloc _, (((HR2.out.other (by simp) _).other (by simp) _).other (by simp) _).alloc _, ?_⟩
        exact ⟨((((HO.out.other N1.out _).other N1.out _).other N1.out _).alloc _).cellsH, NotIn.of N2.out, fun _ => ((((HO.out.other N1.out _).other N1.out _).other N1.out _).alloc _).typ⟩
      case measure => simp [intOf]; omega
    · obtain rfl : l = 5 := by omega
      clear hfi hsh hres hcl hb
      go_wp2
      refine bodyPost_ret (v := .tuple #[.agg #[.int .i64 W, .int .i64 H, .slice Ak n ck], .int .i64 0]) (by simp [results, Tryd.results15, go_sem, cr]) rfl ⟨Ak, ck, rfl, ((HC.out.other hni _).other hni _).other hni _, (((hty (by omega)).set (by decide) HR.out _).set (by decide) (HR.out.set _ _) _).set (by decide) ((HR.out.set _ _).set _ _) _, gr_set (gr_set (gr_set HBE.out (by simp; omega) _) (by simp; omega) _) (by simp; omega) _⟩

end Go.Proofs.YtneegcnidoopmaaDoor
