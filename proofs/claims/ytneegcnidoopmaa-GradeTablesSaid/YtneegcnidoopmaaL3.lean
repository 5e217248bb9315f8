/- GradeTables: for every two curves and picture, the law answers true and leaves its input as it was. No conditions. -/
import Derived.Test.YtneegcnidoopmaaFa
import Derived.Test.YtneegcnidoopmaaI
import Derived.Test.YtneegcnidoopmaaM
import Derived.Test.YtneegcnidoopmaaT
import Derived.Test.YtneegcnidoopmaaU
import Derived.Test.YtneegcnidoopmaaV
import Derived.Test.YtneegcnidoopmaaW
import Derived.Test.YtneegcnidoopmaaX
import Derived.Deep.DeepCutAuto
import Derived.Deep.CutBlock
import Derived.Deep.LoopGhost
namespace Go.Proofs.Ytneegcnidoopmaa
open Go.RowKit

noncomputable def bothF (X Y : Nat → Int) (n : Nat) (X1 Y1 : Nat → Int) (n1 : Nat) (i : Nat) : Int := makeF X1 Y1 n1 (makeF X Y n i).toNat

set_option maxRecDepth 100000 in
set_option maxHeartbeats 4000000 in
theorem tables_law (A : Option Addr) (n cap : Nat) (X Y : Nat → Int) (A1 : Option Addr) (n1 cap1 : Nat) (X1 Y1 : Nat → Int) (W H : Int) (A2 : Option Addr) (m cap2 : Nat) (R G B : Nat → Int) (w : World) (hn : n ≤ 9223372036854775807) (hn1 : n1 ≤ 9223372036854775807) (hm : m ≤ 9223372036854775807)
    (hc : Cells2 w A n X Y) (hc1 : Cells2 w A1 n1 X1 Y1) (hd : Cells3 w A2 m R G B) (hB : Bytes3 R G B m) (hnil : A2 = none → m = 0 ∧ cap2 = 0) :
    Calls Try.prog 5 #[.slice A n cap, .slice A1 n1 cap1, .agg #[.int .i64 W, .int .i64 H, .slice A2 m cap2]] w fun e w' => e = .returned (.bool true) ∧ Grew w w' := by
  have HC := Lib.hid hc
  have HC1 := Lib.hid hc1
  have HD := Lib.hid hd
  have HB := Lib.hid hB
  have HN := Lib.hid hnil
  clear hc hc1 hd hB hnil
  by_cases h40 : 40 < n
  ·
    go_enter Try.func5, Try.ntmps5
    go_wp2_with (go_at_call 10; refine (awake39_any _).mono ?_; rintro e w' ⟨rfl, x0, rfl⟩)
    go_ret
    exact ⟨rfl, Grew.of (by repeat (first | assumption | exact gr_refl _ | refine gr_alloc ?_ _ | refine gr_drew ?_ | refine gr_drewN ?_ _ | refine gr_ext ?_ _ | (refine gr_set ?_ ?_ _; rotate_left; (simp <;> omega))))⟩
  have d40 : decide ((40 : Int) < (n : Int)) = false := decide_eq_false (by omega)
  by_cases h41 : 40 < n1
  ·
    go_enter Try.func5, Try.ntmps5
    go_wp2_with (go_at_call 10; refine (awake39_any _).mono ?_; rintro e w' ⟨rfl, x0, rfl⟩)
    go_ret
    exact ⟨rfl, Grew.of (by repeat (first | assumption | exact gr_refl _ | refine gr_alloc ?_ _ | refine gr_drew ?_ | refine gr_drewN ?_ _ | refine gr_ext ?_ _ | (refine gr_set ?_ ?_ _; rotate_left; (simp <;> omega))))⟩
  have d41 : decide ((40 : Int) < (n1 : Int)) = false := decide_eq_false (by omega)
  by_cases h50 : 5000 < m
  ·
    go_enter Try.func5, Try.ntmps5
    go_wp2_with (go_at_call 10; refine (awake39_any _).mono ?_; rintro e w' ⟨rfl, x0, rfl⟩)
    go_ret
    exact ⟨rfl, Grew.of (by repeat (first | assumption | exact gr_refl _ | refine gr_alloc ?_ _ | refine gr_drew ?_ | refine gr_drewN ?_ _ | refine gr_ext ?_ _ | (refine gr_set ?_ ?_ _; rotate_left; (simp <;> omega))))⟩
  have d50 : decide ((5000 : Int) < (m : Int)) = false := decide_eq_false (by omega)
  have z9 : Try.zeroCells39 = tab (fun _ => 0) := by kernel_rfl
  have z8 : Try.zeroCells38 = tab (fun _ => 0) := by kernel_rfl
  have Z9 := Lib.hid z9
  have Z8 := Lib.hid z8
  clear z9 z8
  go_enter Try.func5, Try.ntmps5
  go_wp2_with fail
  refine (to_any A n cap X Y _ (by omega) (HC.out.below (by repeat (first | assumption | exact gr_refl _ | refine gr_alloc ?_ _ | refine gr_drew ?_ | refine gr_drewN ?_ _ | refine gr_ext ?_ _ | (refine gr_set ?_ ?_ _; rotate_left; (simp <;> omega)))))).mono ?_
  rintro e w1 ⟨v, rfl, ho, hb⟩
  obtain ⟨A3, cap3, rfl, hcap3, hc3⟩ := ho.pins
  have bp : Blk w1 w.heap.size #[.int .i64 W, .int .i64 H, .slice A2 m cap2] 36 := Blk.below ((by repeat (first | assumption | (refine Blk.at_ _ _ ?_; simp; done) | refine Blk.alloc ?_ _ | refine Blk.drew ?_ | refine Blk.ext ?_ _ | exact Blk.set (by assumption) _ _ | (refine Blk.other ?_ ?_ _; rotate_left; (simp <;> omega))))) hb
  have F1 : Hid (Fam w [(w.heap.size, #[.int .i64 W, .int .i64 H, .slice A2 m cap2], 36)] w1) := Fam.cons ⟨gr_below ((by repeat (first | assumption | exact gr_refl _ | refine gr_alloc ?_ _ | refine gr_drew ?_ | refine gr_drewN ?_ _ | refine gr_ext ?_ _ | (refine gr_set ?_ ?_ _; rotate_left; (simp <;> omega))))) hb, fun p hp => by cases hp⟩ bp
  have HC3 := Lib.hid hc3
  clear ho hb hc3 bp
  go_wp2_with fail
  refine (make_any A3 n cap3 X Y _ (by omega) hcap3 HC3.out).mono ?_
  rintro e w' ⟨rfl, x1, rfl⟩
  go_wp2_with fail
  refine (to_any A1 n1 cap1 X1 Y1 _ (by omega) (HC1.out.below (F1.out.ext x1).bel)).mono ?_
  rintro e w2 ⟨v, rfl, ho, hb⟩
  obtain ⟨A4, cap4, rfl, hcap4, hc4⟩ := ho.pins
  have F2 := Lib.hid ((F1.out.ext x1).below hb)
  have HC4 := Lib.hid hc4
  clear ho hb hc4
  go_wp2_with fail
  refine (make_any A4 n1 cap4 X1 Y1 _ (by omega) hcap4 HC4.out).mono ?_
  rintro e w' ⟨rfl, x2, rfl⟩
  have F3 := Lib.hid (F2.out.ext x2)
  have l3 := F3.out.lt (List.mem_cons_self ..)
  simp only at l3
  go_wp2_with (refine wpList_store_blk (w0 := w) rfl 39 _ _ rfl x2.val.heap.size _ rfl rfl 39 _ (Blk.alloc (Blk.at_ _ _ rfl) _) (by kernel_rfl) (by kernel_rfl) (by kernel_rfl) ((F3.out.alloc _).alloc _).bel ?_ ?_)
  · omega
  intro w3 hbl7 _ hg3
  have F4 := Lib.hid ((((F3.out.alloc _).alloc _).grown hg3 (by simp; omega) (by simp; omega)).cons hbl7)
  have b8 : Blk w3 (x2.val.heap.size + 1) Try.zeroCells39 39 := Blk.grown (Blk.at_ _ _ (by simp)) hg3 (by simp)
  have B8 := Lib.hid b8
  have hs3 := b8.lt
  clear hbl7 b8 hg3
  go_wp2_with (refine wpList_store_blk (w0 := w) rfl 39 _ _ rfl (x2.val.heap.size + 1) _ rfl rfl 39 _ B8.out (by kernel_rfl) (by kernel_rfl) (by kernel_rfl) F4.out.bel ?_ ?_)
  · omega
  intro w4 hbl8 _ hg4
  have F5 := Lib.hid ((F4.out.grown hg4 (by simp; omega) (by simp; omega)).cons hbl8)
  have l4 := hbl8.lt
  clear hbl8 hg4
  go_wp2_with fail
  refine (rmake_any A n cap X Y _ (by omega) (HC.out.below F5.out.bel)).mono ?_
  rintro e w' ⟨rfl, x5, rfl⟩
  go_wp2_with fail
  refine (rmake_any A1 n1 cap1 X1 Y1 _ (by omega) (HC1.out.below (F5.out.ext x5).bel)).mono ?_
  rintro e w' ⟨rfl, x6, rfl⟩
  have F6 := Lib.hid ((F5.out.ext x5).ext x6)
  have hx5 := x5.size_val
  have hx6 := x6.size_val
  go_wp2_with (refine wpList_store_blk (w0 := w) rfl 38 _ _ rfl x6.val.heap.size _ rfl rfl 38 _ (Blk.alloc (Blk.at_ _ _ rfl) _) (by kernel_rfl) (by kernel_rfl) (by kernel_rfl) ((F6.out.alloc _).alloc _).bel ?_ ?_)
  · omega
  intro w7 hbl9 _ hg7
  have F7 := Lib.hid ((((F6.out.alloc _).alloc _).grown hg7 (by simp; omega) (by simp; omega)).cons hbl9)
  have b10 : Blk w7 (x6.val.heap.size + 1) Try.zeroCells38 38 := Blk.grown (Blk.at_ _ _ (by simp)) hg7 (by simp)
  have B10 := Lib.hid b10
  have hs7 := b10.lt
  clear hbl9 b10 hg7
  go_wp2_with (refine wpList_store_blk (w0 := w) rfl 38 _ _ rfl (x6.val.heap.size + 1) _ rfl rfl 38 _ B10.out (by kernel_rfl) (by kernel_rfl) (by kernel_rfl) F7.out.bel ?_ ?_)
  · omega
  intro w8 hbl10 _ hg8
  have F8 := Lib.hid ((F7.out.grown hg8 (by simp; omega) (by simp; omega)).cons hbl10)
  have l10 := hbl10.lt
  clear hbl10 hg8
  go_wp2_with fail
  go_loopw [42] (fun i wr => ∃ k : Nat, k ≤ 256 ∧ i = .int .i64 k ∧ Fam w [(x6.val.heap.size + 1, tab (makeF X1 Y1 n1), 38), (x6.val.heap.size, tab (makeF X Y n), 38), (x2.val.heap.size + 1, tab (makeF X1 Y1 n1), 39), (x2.val.heap.size, tab (makeF X Y n), 39), (w.heap.size, #[.int .i64 W, .int .i64 H, .slice A2 m cap2], 36)] wr ∧ Blk wr w8.heap.size (tab (done (bothF X Y n X1 Y1 n1) k)) 38) (fun i _ => 256 - (intOf i).toNat)
  case atStart =>
    have e0 : tab (done (bothF X Y n X1 Y1 n1) 0) = Try.zeroCells38 := by rw [Z8.out]; exact tab_congr fun i _ => if_neg (by omega)
    exact ⟨0, by omega, rfl, F8.out.alloc _, by rw [e0]; exact (by repeat (first | assumption | (refine Blk.at_ _ _ ?_; simp; done) | refine Blk.alloc ?_ _ | refine Blk.drew ?_ | refine Blk.ext ?_ _ | exact Blk.set (by assumption) _ _ | (refine Blk.other ?_ ?_ _; rotate_left; (simp <;> omega))))⟩
  case round =>
    obtain ⟨k, hk, rfl, hf, hbo⟩ := hrel
    have lbo := hbo.lt
    have fbo := hbo.frozen
    have HBO := Lib.hid hbo
    have HF := Lib.hid hf
    by_cases hkk : k < 256
    · have b1 := makeF_bd X Y n k
      have c9 : wr.cell? ⟨x6.val.heap.size, k, none⟩ = some (.int .u8 (makeF X Y n k)) := by rw [(hf.get (b := x6.val.heap.size) (c := tab (makeF X Y n)) (T := 38) (by simp)).cell, tab_get _ hkk]
      have eb : bothF X Y n X1 Y1 n1 k = makeF X1 Y1 n1 (makeF X Y n k).toNat := rfl
      obtain ⟨q, hq⟩ : ∃ q : Nat, makeF X Y n k = q := ⟨(makeF X Y n k).toNat, by omega⟩
      rw [hq] at c9 b1 eb
      rw [Int.toNat_natCast] at eb
      have c10 : wr.cell? ⟨x6.val.heap.size + 1, q, none⟩ = some (.int .u8 (makeF X1 Y1 n1 q)) := by rw [(hf.get (b := x6.val.heap.size + 1) (c := tab (makeF X1 Y1 n1)) (T := 38) (by simp)).cell, tab_get _ (by omega)]
      have ct : wr.cell? ⟨w8.heap.size, k, none⟩ = some (.int .u8 (done (bothF X Y n X1 Y1 n1) k k)) := by rw [HBO.out.cell, tab_get _ hkk]
      have ev : Blk (wr.setCell ⟨w8.heap.size, k, none⟩ (.int .u8 (makeF X1 Y1 n1 q))) w8.heap.size (tab (done (bothF X Y n X1 Y1 n1) (k + 1))) 38 := by
        have := HBO.out.set k (.int .u8 (bothF X Y n X1 Y1 n1 k))
        rw [done_set] at this
        rwa [eb] at this
      have EV := Lib.hid ev
      have q1 := b1.2
      clear ev hq eb hf hbo b1
      generalize done (bothF X Y n X1 Y1 n1) k k = old at *
      generalize makeF X1 Y1 n1 q = nv at *
      go_wp2
      go_roundw
      case rel => exact ⟨k + 1, by omega, by go_num, HF.out.set (by simp; omega) (by simp; omega) _, EV.out⟩
      case measure => simp [intOf]; omega
    · obtain rfl : k = 256 := by omega
      rw [done_all] at hbo
      have FF := Lib.hid (hf.cons hbo)
      clear hf hbo HF HBO fbo
      have hx2 := x2.size_val
      obtain ⟨b9, eb9⟩ : ∃ b, b = x6.val.heap.size := ⟨_, rfl⟩
      obtain ⟨b7, eb7⟩ : ∃ b, b = x2.val.heap.size := ⟨_, rfl⟩
      obtain ⟨b11, eb11⟩ : ∃ b, b = w8.heap.size := ⟨_, rfl⟩
      rw [← eb9, ← eb7, ← eb11] at FF
      rw [← eb9] at l10
      rw [← eb7] at l4 hs3
      rw [← eb11] at lbo
      obtain ⟨Fx, eF⟩ : ∃ f, f = makeF X Y n := ⟨_, rfl⟩
      obtain ⟨Gx, eG⟩ : ∃ f, f = makeF X1 Y1 n1 := ⟨_, rfl⟩
      have hFx : ∀ i, i < 256 → 0 ≤ Fx i ∧ Fx i ≤ 255 := fun i _ => by rw [eF]; exact makeF_bd ..
      have eBo : bothF X Y n X1 Y1 n1 = fun i => Gx (Fx i).toNat := by rw [eF, eG]; rfl
      rw [eBo, ← eF, ← eG] at FF
      rw [← eb9, ← eb7, ← eb11, ← eF, ← eG]
      obtain ⟨L, eL⟩ : ∃ L : List (Nat × Array Value × TypeId), L = [(b11, tab (fun i => Gx (Fx i).toNat), 38), (b9 + 1, tab Gx, 38), (b9, tab Fx, 38), (b7 + 1, tab Gx, 39), (b7, tab Fx, 39), (w.heap.size, #[.int .i64 W, .int .i64 H, .slice A2 m cap2], 36)] := ⟨_, rfl⟩
      rw [← eL] at FF
      have hth : ∀ wz, Calls Try.prog 20 #[.agg (tab Fx), .agg (tab Gx)] wz fun e w' => e = .returned (.agg (tab (fun i => Gx (Fx i).toNat))) ∧ Grew wz w' := fun wz => then_any Fx Gx hFx wz
      have HTH := Lib.hid hth
      have HFX := Lib.hid hFx
      have r7 : ∀ w', (∃ x : Ext wr, w' = x.val) → w'.heap[b7]? = some (.cells (tab Fx) 39 (0, 0)) := by
        rintro _ ⟨x, rfl⟩; exact ((FF.out.ext x).get (by rw [eL]; simp)).heap
      have r7b : ∀ w', (∃ x : Ext wr, w' = x.val) → w'.heap[b7 + 1]? = some (.cells (tab Gx) 39 (0, 0)) := by
        rintro _ ⟨x, rfl⟩; exact ((FF.out.ext x).get (by rw [eL]; simp)).heap
      have r9 : ∀ w', (∃ x : Ext wr, w' = x.val) → w'.heap[b9]? = some (.cells (tab Fx) 38 (0, 0)) := by
        rintro _ ⟨x, rfl⟩; exact ((FF.out.ext x).get (by rw [eL]; simp)).heap
      have r9b : ∀ w', (∃ x : Ext wr, w' = x.val) → w'.heap[b9 + 1]? = some (.cells (tab Gx) 38 (0, 0)) := by
        rintro _ ⟨x, rfl⟩; exact ((FF.out.ext x).get (by rw [eL]; simp)).heap
      have r11 : ∀ w', (∃ x : Ext wr, w' = x.val) → w'.heap[b11]? = some (.cells (tab (fun i => Gx (Fx i).toNat)) 38 (0, 0)) := by
        rintro _ ⟨x, rfl⟩; exact ((FF.out.ext x).get (by rw [eL]; simp)).heap
      have R7 := Lib.hid r7
      have R7B := Lib.hid r7b
      have R9 := Lib.hid r9
      have R9B := Lib.hid r9b
      have R11 := Lib.hid r11
      have EL := Lib.hid eL
      clear r7 r7b r9 r9b r11 hth eL eBo eb9 eb7 eb11 eF eG hFx
      have q1 : ∀ wz, (Op.equalIn (9998 + 1 + 1) 39 (.agg (tab Fx)) (.agg (tab Fx))).run Try.prog wz = .ok true wz := fun wz => run_equalIn_tab wz 9998 _ 5 Fx Try.underlying39 Try.underlying5 (by kernel_rfl)
      have q2 : ∀ wz, (Op.equalIn (9998 + 1 + 1) 39 (.agg (tab Gx)) (.agg (tab Gx))).run Try.prog wz = .ok true wz := fun wz => run_equalIn_tab wz 9998 _ 5 Gx Try.underlying39 Try.underlying5 (by kernel_rfl)
      have q3 : ∀ wz, (Op.equalIn (9998 + 1 + 1) 39 (.agg (tab (fun i => Gx (Fx i).toNat))) (.agg (tab (fun i => Gx (Fx i).toNat)))).run Try.prog wz = .ok true wz := fun wz => run_equalIn_tab wz 9998 _ 5 (fun i => Gx (Fx i).toNat) Try.underlying39 Try.underlying5 (by kernel_rfl)
      go_upto_region 11 with fail
      refine wp_region_ext (by kernel_rfl) (by kernel_rfl) ?_
      repeat (first | (refine wpQuiet_row (by rfl) 39 _ rfl b7 rfl 39 _ (0, 0) _ R7.out Try.underlying39 rfl (by kernel_rfl) ?_; simp only [Act.put, List.setIfInBounds_toArray, List.set_cons_zero, List.set_cons_succ]) | (refine wpQuiet_row (by rfl) 39 _ rfl (b7 + 1) rfl 39 _ (0, 0) _ R7B.out Try.underlying39 rfl (by kernel_rfl) ?_; simp only [Act.put, List.setIfInBounds_toArray, List.set_cons_zero, List.set_cons_succ]) | (refine wpQuiet_row (by rfl) 38 _ rfl b9 rfl 38 _ (0, 0) _ R9.out Try.underlying38 rfl (by kernel_rfl) ?_; simp only [Act.put, List.setIfInBounds_toArray, List.set_cons_zero, List.set_cons_succ]) | (refine wpQuiet_row (by rfl) 38 _ rfl (b9 + 1) rfl 38 _ (0, 0) _ R9B.out Try.underlying38 rfl (by kernel_rfl) ?_; simp only [Act.put, List.setIfInBounds_toArray, List.set_cons_zero, List.set_cons_succ]) | (refine wpQuiet_row (by rfl) 38 _ rfl b11 rfl 38 _ (0, 0) _ R11.out Try.underlying38 rfl (by kernel_rfl) ?_; simp only [Act.put, List.setIfInBounds_toArray, List.set_cons_zero, List.set_cons_succ]) | go_big_quiet_step ((go_at_call 20; exact Calls.grew _ (HTH.out _))))
      refine wpQuiet_nil ?_
      rintro _ ⟨x7, rfl⟩
      have FG := Lib.hid (FF.out.ext x7)
      clear q1 q2 q3 R7 R7B R9 R9B R11
      have gp : ∀ w', Fam w L w' → Blk w' w.heap.size #[.int .i64 W, .int .i64 H, .slice A2 m cap2] 36 := fun w' h => h.get (by rw [EL.out]; simp)
      have g7 : ∀ w', Fam w L w' → Blk w' b7 (tab Fx) 39 := fun w' h => h.get (by rw [EL.out]; simp)
      have g9 : ∀ w', Fam w L w' → Blk w' b9 (tab Fx) 38 := fun w' h => h.get (by rw [EL.out]; simp)
      have out : ∀ w', Fam w L w' → FamS w L w' ∧ w'.rangeAt b7 0 (tabL Fx) ∧ w'.cell? ⟨w.heap.size, 0, none⟩ = some (.int .i64 W) ∧ w'.cell? ⟨w.heap.size, 1, none⟩ = some (.int .i64 H) ∧ w'.cell? ⟨w.heap.size, 2, none⟩ = some (.slice A2 m cap2) := fun w' h =>
        ⟨h, (g7 w' h).range, by rw [(gp w' h).cell]; rfl, by rw [(gp w' h).cell]; rfl, by rw [(gp w' h).cell]; rfl⟩
      have hlt := fun p hp => FG.out.lt (p := p) hp
      have HLT := Lib.hid hlt
      have l7 := (gp _ FG.out).lt
      have OUT := Lib.hid out
      have GP := Lib.hid gp
      have G7 := Lib.hid g7
      have G9 := Lib.hid g9
      clear out hlt gp g7 g9
      cases hr : picB W H m with
      | false =>
        have HR := Lib.hid hr
        clear hr
        go_upto_region 13 with fail
        go_cut [13, 14] (fun s13 s14 wx => ∃ bq, s13 = .pointer (some ⟨bq, 0, none⟩) ∧ s14 = .int .i64 1 ∧ Fam w ((bq, #[.int .i64 0, .int .i64 0, .slice none 0 0], 46) :: L) wx)
        case first =>
            have y1 : Try.prog.underlying 39 = some (.array 256 5) := Try.underlying39
            have y2 : (Try.prog.info? 39).map (·.size) = some (tabL Fx).length := by rw [tabL_len]; kernel_rfl
            have y3 : (tabL Fx).length = 256 := tabL_len _
            have y4 : ∀ v ∈ tabL Fx, v.oneCell' = true := tabL_one _
            go_region_held3 (fun w' => FamS w L w' ∧ w'.rangeAt b7 0 (tabL Fx) ∧ w'.cell? ⟨w.heap.size, 0, none⟩ = some (.int .i64 W) ∧ w'.cell? ⟨w.heap.size, 1, none⟩ = some (.int .i64 H) ∧ w'.cell? ⟨w.heap.size, 2, none⟩ = some (.slice A2 m cap2)) (first | exact OUT.out _ (FG.out.drew) | exact OUT.out _ (Fam.realloc (Fam.back (by assumption)) (by omega) (fun p hp => by have := HLT.out p hp; omega) _) | exact OUT.out _ ((Fam.back (by assumption)).alloc _) | exact OUT.out _ ((Fam.back (by assumption)).below (by assumption)) | exact OUT.out _ ((Fam.back (by assumption)).ext _) | exact OUT.out _ ((((Fam.back (by assumption)).set (by simp; omega) (fun p hp => by have := HLT.out p hp; simp; omega) _).set (by simp; omega) (fun p hp => by have := HLT.out p hp; simp; omega) _).set (by simp; omega) (fun p hp => by have := HLT.out p hp; simp; omega) _))
              (first | (go_at_call 23; refine (picto_any W H A2 m cap2 R G B _ (by omega) HN.out (HD.out.below (Fam.bel (Fam.back (by assumption))))).mono ?_; rintro e w' ⟨v, rfl, ho, hb1⟩; obtain ⟨A5, cap5, rfl, hcap5, hcl5⟩ := ho.dots; have hs1 := hb1.size; (try simp at hs1); (try (have bq : Blk _ x7.val.heap.size _ _ := Blk.below (Blk.at_ (w := x7.val.drew) #[.int .i64 0, .int .i64 0, .slice none 0 0] 46 rfl) hb1; have cq := bq.cell; have fq := bq.frozen; have lq := bq.lt))) | (go_at_call 22; refine (apply_bad Fx W H A5 m cap5 _ HR.out).mono ?_; rintro e w' ⟨rfl, xb, rfl⟩; have hs2 := xb.size_val; (try simp at hs2); (first | (have bq := Blk.ext (Blk.at_ #[.int .i64 0, .int .i64 0, .slice none 0 0] 46 rfl) xb; have cq := bq.cell; have fq := bq.frozen; have lq := bq.lt) | (have bq := Blk.ext bq xb; have cq := bq.cell; have fq := bq.frozen; have lq := bq.lt) | skip)))
            all_goals go_wp2
            all_goals go_meet
            · have k9 := Fam.back (by assumption)
              exact ⟨_, rfl, rfl, k9.cons (Blk.at_ _ _ rfl)⟩
            · have k9 := Fam.back (by assumption)
              exact ⟨_, rfl, rfl, k9.cons (((bq.set 0 (.int .i64 0)).set 1 (.int .i64 0)).set 2 _)⟩
            · have k9 := Fam.back (by assumption)
              exact ⟨_, rfl, rfl, k9.cons (((bq.set 0 (.int .i64 0)).set 1 (.int .i64 0)).set 2 _)⟩
        case rest =>
            obtain ⟨bq, rfl, rfl, fq⟩ := hcut
            have FQ := Lib.hid fq
            clear fq
            have cp := (GP.out _ FQ.out.tail).cell
            have lp := (GP.out _ FQ.out.tail).lt
            go_wp2_with fail
            refine (picto_any W H A2 m cap2 R G B _ (by omega) HN.out (HD.out.below FQ.out.bel)).mono ?_
            rintro e w' ⟨v, rfl, ho, hb1⟩
            obtain ⟨A7, cap7, rfl, hcap7, hcl7⟩ := ho.dots
            have FQ1 := Lib.hid (FQ.out.below hb1)
            clear cp lp ho hb1
            go_wp2_with fail
            refine (spread_bad W H A7 m cap7 _ HR.out).mono ?_
            rintro e w' ⟨rfl, x8, rfl⟩
            have FQ2 := Lib.hid (FQ1.out.ext x8)
            have hlt2 := fun p hp => FQ2.out.lt (p := p) hp
            have HLT2 := Lib.hid hlt2
            have lw := (GP.out _ FQ2.out.tail).lt
            clear hcl7 hlt2
            go_wp2_with (refine wpList_store_blk (w0 := w) rfl 39 _ _ rfl x8.val.heap.size _ rfl rfl 39 _ (Blk.at_ _ _ rfl) (by kernel_rfl) (by kernel_rfl) (by kernel_rfl) (FQ2.out.alloc _).bel ?_ ?_)
            · omega
            intro w9 hbl15 _ hg9
            have F9 := Lib.hid (((FQ2.out.alloc _).grown hg9 (by simp; omega) (fun p hp => by have := HLT2.out p hp; simp; omega)).cons hbl15)
            clear hbl15 hg9
            obtain ⟨b15, eb15⟩ : ∃ b, b = x8.val.heap.size := ⟨_, rfl⟩
            rw [← eb15] at F9
            rw [← eb15]
            clear eb15
            have cp := (GP.out _ F9.out.tail.tail).cell
            have lp := (GP.out _ F9.out.tail.tail).lt
            go_wp2_with fail
            refine (rpic_right_any _ _ _ _ _ _).mono ?_
            rintro e w' ⟨rfl, x9, rfl⟩
            rw [HR.out]
            have FX := Lib.hid (F9.out.ext x9)
            clear cp lp
            go_wp2_with fail
            refine (awake39_any _).mono ?_
            rintro e w' ⟨rfl, x10, rfl⟩
            have FY := Lib.hid (FX.out.ext x10)
            have cb := FY.out.tail.head.cell
            have lb := FY.out.tail.head.lt
            have hbd : Try.prog.built 39 [] = some (tab fun _ => 0) := by kernel_rfl
            have q1 : ∀ wz, (Op.equalIn (9998 + 1 + 1) 39 (.agg (tab fun _ => 0)) (.agg (tab fun _ => 0))).run Try.prog wz = .ok true wz := fun wz => run_equalIn_tab wz 9998 _ 5 (fun _ => 0) Try.underlying39 Try.underlying5 (by kernel_rfl)
            go_wp2_with (first | (refine wpList_load_row_g (by rfl) 39 _ rfl b15 rfl 39 _ (0, 0) _ FY.out.head.heap Try.underlying39 rfl (by kernel_rfl) ?_) | (refine wpList_build_none (by rfl) 39 rfl _ hbd ?_))
            go_ret
            exact ⟨rfl, Grew.of FY.out.bel⟩
      | true =>
        have HR := Lib.hid hr
        clear hr
        go_upto_region 13 with fail
        go_cut [13, 14] (fun s13 s14 wx => ∃ bq Aq capq, s13 = .pointer (some ⟨bq, 0, none⟩) ∧ s14 = .int .i64 0 ∧ Fam w ((bq, #[.int .i64 W, .int .i64 H, .slice Aq m capq], 46) :: L) wx ∧ Cells3 wx Aq m (through Fx R) (through Fx G) (through Fx B))
        case first =>
            have y1 : Try.prog.underlying 39 = some (.array 256 5) := Try.underlying39
            have y2 : (Try.prog.info? 39).map (·.size) = some (tabL Fx).length := by rw [tabL_len]; kernel_rfl
            have y3 : (tabL Fx).length = 256 := tabL_len _
            have y4 : ∀ v ∈ tabL Fx, v.oneCell' = true := tabL_one _
            go_region_held3 (fun w' => FamS w L w' ∧ w'.rangeAt b7 0 (tabL Fx) ∧ w'.cell? ⟨w.heap.size, 0, none⟩ = some (.int .i64 W) ∧ w'.cell? ⟨w.heap.size, 1, none⟩ = some (.int .i64 H) ∧ w'.cell? ⟨w.heap.size, 2, none⟩ = some (.slice A2 m cap2)) (first | exact OUT.out _ (FG.out.drew) | exact OUT.out _ (Fam.realloc (Fam.back (by assumption)) (by omega) (fun p hp => by have := HLT.out p hp; omega) _) | exact OUT.out _ ((Fam.back (by assumption)).alloc _) | exact OUT.out _ ((Fam.back (by assumption)).below (by assumption)) | exact OUT.out _ ((((Fam.back (by assumption)).set (by simp; omega) (fun p hp => by have := HLT.out p hp; simp; omega) _).set (by simp; omega) (fun p hp => by have := HLT.out p hp; simp; omega) _).set (by simp; omega) (fun p hp => by have := HLT.out p hp; simp; omega) _))
              (first | (go_at_call 23; refine (picto_any W H A2 m cap2 R G B _ (by omega) HN.out (HD.out.below (Fam.bel (Fam.back (by assumption))))).mono ?_; rintro e w' ⟨v, rfl, ho, hb1⟩; obtain ⟨A5, cap5, rfl, hcap5, hcl5⟩ := ho.dots; have hs1 := hb1.size; (try simp at hs1); (try (have bq : Blk _ x7.val.heap.size _ _ := Blk.below (Blk.at_ (w := x7.val.drew) #[.int .i64 0, .int .i64 0, .slice none 0 0] 46 rfl) hb1; have cq := bq.cell; have fq := bq.frozen; have lq := bq.lt))) | (go_at_call 22; refine (apply_any Fx W H A5 m cap5 R G B _ HR.out (by first | exact hcl5 | exact hcl5.below (gr_alloc (gr_refl _) _)) HB.out).mono ?_; rintro e w' ⟨v, rfl, ho, hb2⟩; obtain ⟨A6, cap6, rfl, hcap6, hcl6⟩ := ho.dots; have hs2 := hb2.size; (try simp at hs2); (first | (have bq := Blk.below (Blk.at_ #[.int .i64 0, .int .i64 0, .slice none 0 0] 46 rfl) hb2; have cq := bq.cell; have fq := bq.frozen; have lq := bq.lt) | (have bq := Blk.below bq hb2; have cq := bq.cell; have fq := bq.frozen; have lq := bq.lt) | skip)))
            all_goals go_wp2
            all_goals go_meet
            · have k9 := Fam.back (by assumption)
              exact ⟨_, _, _, rfl, rfl, k9.cons (Blk.at_ _ _ rfl), hcl6.below (gr_alloc (gr_refl _) _)⟩
            · have k9 := Fam.back (by assumption)
              have n9 := ho.ne_blk bq (by decide)
              exact ⟨_, _, _, rfl, rfl, k9.cons (((bq.set 0 (.int .i64 W)).set 1 (.int .i64 H)).set 2 _), Own.cells3 (((ho.other n9 _).other n9 _).other n9 _)⟩
            · have k9 := Fam.back (by assumption)
              have n9 := ho.ne_blk bq (by decide)
              exact ⟨_, _, _, rfl, rfl, k9.cons (((bq.set 0 (.int .i64 W)).set 1 (.int .i64 H)).set 2 _), Own.cells3 (((ho.other n9 _).other n9 _).other n9 _)⟩
        case rest =>
            obtain ⟨bq, Aq, capq, rfl, rfl, fq, hcq⟩ := hcut
            have FQ := Lib.hid fq
            have HCQ := Lib.hid hcq
            clear fq hcq
            have cp := (GP.out _ FQ.out.tail).cell
            have lp := (GP.out _ FQ.out.tail).lt
            go_wp2_with fail
            refine (picto_any W H A2 m cap2 R G B _ (by omega) HN.out (HD.out.below FQ.out.bel)).mono ?_
            rintro e w' ⟨v, rfl, ho, hb1⟩
            obtain ⟨A7, cap7, rfl, hcap7, hcl7⟩ := ho.dots
            have FQ1 := Lib.hid (FQ.out.below hb1)
            have HCQ1 := Lib.hid (HCQ.out.below hb1)
            clear cp lp ho hb1
            go_wp2_with fail
            refine (spread_any W H A7 m cap7 R G B _ HR.out hcl7 HB.out).mono ?_
            rintro e w' ⟨rfl, x8, rfl⟩
            have FQ2 := Lib.hid (FQ1.out.ext x8)
            have hlt2 := fun p hp => FQ2.out.lt (p := p) hp
            have HLT2 := Lib.hid hlt2
            have lw := (GP.out _ FQ2.out.tail).lt
            clear hcl7 hlt2
            go_wp2_with (refine wpList_store_blk (w0 := w) rfl 39 _ _ rfl x8.val.heap.size _ rfl rfl 39 _ (Blk.at_ _ _ rfl) (by kernel_rfl) (by kernel_rfl) (by kernel_rfl) (FQ2.out.alloc _).bel ?_ ?_)
            · omega
            intro w9 hbl15 _ hg9
            have F9 := Lib.hid (((FQ2.out.alloc _).grown hg9 (by simp; omega) (fun p hp => by have := HLT2.out p hp; simp; omega)).cons hbl15)
            have HCQ9 := Lib.hid ((HCQ1.out.ext x8).below (gr_grown (gr_alloc (gr_refl x8.val) _) hg9 (by simp)))
            clear hbl15 hg9
            obtain ⟨b15, eb15⟩ : ∃ b, b = x8.val.heap.size := ⟨_, rfl⟩
            obtain ⟨Sx, eS⟩ : ∃ f, f = spreadF (lowF R G B m) (highF R G B m) := ⟨_, rfl⟩
            rw [← eb15, ← eS] at F9
            rw [← eb15, ← eS]
            have h0 : 0 < m := by have := picB_len HR.out; omega
            have hsp : ∀ wz, Cells3 wz A2 m R G B → Calls Try.prog 30 #[.agg #[.int .i64 W, .int .i64 H, .slice A2 m cap2]] wz fun e w' => e = .returned (.agg (tabL Sx).toArray) ∧ Grew wz w' := fun wz hz => by rw [eS]; exact rspread_any W H A2 m cap2 R G B wz h0 (by omega) hz HB.out
            have HSP := Lib.hid hsp
            have cp := (GP.out _ F9.out.tail.tail).cell
            have lp := (GP.out _ F9.out.tail.tail).lt
            clear hsp eS eb15
            go_wp2_with fail
            refine (rpic_right_any _ _ _ _ _ _).mono ?_
            rintro e w' ⟨rfl, x9, rfl⟩
            rw [HR.out]
            obtain ⟨L7, eL7⟩ : ∃ L7 : List (Nat × Array Value × TypeId), L7 = (b15, tab Sx, 39) :: (bq, #[.int .i64 W, .int .i64 H, .slice Aq m capq], 46) :: L := ⟨_, rfl⟩
            have f7 : Fam x9.val L7 x9.val := ⟨gr_refl _, by rw [eL7]; exact (F9.out.ext x9).blk⟩
            have F7z := Lib.hid f7
            have out : ∀ w', Fam x9.val L7 w' → FamS x9.val L7 w' ∧ w'.rangeAt b15 0 (tabL Sx) ∧ w'.rangeAt b9 0 (tabL Fx) ∧ w'.cell? ⟨w.heap.size, 0, none⟩ = some (.int .i64 W) ∧ w'.cell? ⟨w.heap.size, 1, none⟩ = some (.int .i64 H) ∧ w'.cell? ⟨w.heap.size, 2, none⟩ = some (.slice A2 m cap2) ∧ w'.cell? ⟨bq, 0, none⟩ = some (.int .i64 W) ∧ w'.cell? ⟨bq, 1, none⟩ = some (.int .i64 H) ∧ w'.cell? ⟨bq, 2, none⟩ = some (.slice Aq m capq) := fun w' h => by
              have h' := h
              rw [eL7] at h'
              have hw : Fam w L w' := ⟨gr_below ((F9.out.ext x9).bel) h.bel, h'.tail.tail.blk⟩
              exact ⟨h, h'.head.range, (G9.out _ hw).range, by rw [(GP.out _ hw).cell]; rfl, by rw [(GP.out _ hw).cell]; rfl, by rw [(GP.out _ hw).cell]; rfl, by rw [h'.tail.head.cell]; rfl, by rw [h'.tail.head.cell]; rfl, by rw [h'.tail.head.cell]; rfl⟩
            have O7 := Lib.hid out
            have FW9 := Lib.hid (F9.out.ext x9).bel
            have HC9 := Lib.hid (HCQ9.out.ext x9)
            clear out f7 eL7 cp lp
            have q1 : ∀ wz, (Op.equalIn (9998 + 1 + 1) 39 (.agg (tabL Sx).toArray) (.agg (tabL Sx).toArray)).run Try.prog wz = .ok true wz := fun wz => run_equalIn_tab wz 9998 _ 5 Sx Try.underlying39 Try.underlying5 (by kernel_rfl)
            have y1 : Try.prog.underlying 39 = some (.array 256 5) := Try.underlying39
            have y1b : Try.prog.underlying 38 = some (.array 256 5) := Try.underlying38
            have y2 : (Try.prog.info? 39).map (·.size) = some (tabL Sx).length := by rw [tabL_len]; kernel_rfl
            have y2b : (Try.prog.info? 38).map (·.size) = some (tabL Fx).length := by rw [tabL_len]; kernel_rfl
            have y3 : (tabL Fx).length = 256 := tabL_len _
            have y3b : (tabL Sx).length = 256 := tabL_len _
            have y4 : ∀ v ∈ tabL Fx, v.oneCell' = true := tabL_one _
            have y4b : ∀ v ∈ tabL Sx, v.oneCell' = true := tabL_one _
            go_upto_region 17 with fail
            refine wp_region_held_drew (S := (fun w' => FamS x9.val L7 w' ∧ w'.rangeAt b15 0 (tabL Sx) ∧ w'.rangeAt b9 0 (tabL Fx) ∧ w'.cell? ⟨w.heap.size, 0, none⟩ = some (.int .i64 W) ∧ w'.cell? ⟨w.heap.size, 1, none⟩ = some (.int .i64 H) ∧ w'.cell? ⟨w.heap.size, 2, none⟩ = some (.slice A2 m cap2) ∧ w'.cell? ⟨bq, 0, none⟩ = some (.int .i64 W) ∧ w'.cell? ⟨bq, 1, none⟩ = some (.int .i64 H) ∧ w'.cell? ⟨bq, 2, none⟩ = some (.slice Aq m capq))) (by kernel_rfl) (by first | exact O7.out _ F7z.out.drew | exact O7.out _ ((Fam.back (by assumption)).ext _) | exact O7.out _ ((Fam.back (by assumption)).below (by assumption))) (fun hHeld => ?_)
            refine wpAnyH_ready (rs := [0]) (by kernel_rfl) (by simp) ?_
            refine AllReadyH.cons (o := { dst := some 104, op := Op.call { callee := Callee.value (Operand.func 10), args := #[], argTypes := #[] }, type := 4, pos := "law.go:99", after := #[], guard := none }) rfl (fun K' hK => ?_) AllReadyH.nil
            rw [if_pos (by rfl)]
            go_wp2_with (first | (go_at_call 10; refine (awake39_any _).mono ?_; rintro e w' ⟨rfl, y0, rfl⟩) | (go_at_call 25; refine (picfrom_any W H _ m _ _).mono ?_; rintro e w' ⟨rfl, y0, rfl⟩) | (go_at_call 29; refine (rapply_any Fx W H A2 m cap2 R G B _ (by omega) (HD.out.below (gr_below FW9.out (Fam.bel (Fam.back (by assumption))))) HB.out).mono ?_; rintro e w' ⟨v, rfl, ho, hb1⟩; obtain ⟨A8, cap8, rfl, hcap8, hcl8⟩ := ho.dots; have hs1 := hb1.size) | (go_at_call 24; refine (picsame_any W H Aq A8 m capq cap8 _ _ _ _ (by omega) (HC9.out.below (Fam.bel (Fam.back (by assumption)))) hcl8).mono ?_; rintro e w' ⟨rfl, y0, rfl⟩) | (go_at_call 30; refine (HSP.out _ (HD.out.below (gr_below FW9.out (Fam.bel (Fam.back (by assumption)))))).mono ?_; rintro e w' ⟨rfl, y0, rfl⟩))
            refine hK.out _ _ (by first | exact O7.out _ F7z.out.drew | exact O7.out _ ((Fam.back (by assumption)).ext _) | exact O7.out _ ((Fam.back (by assumption)).below (by assumption))) (fun hHeld => ?_)
            clear hK K'
            try simp only [Act.put, List.setIfInBounds_toArray, List.set_cons_zero, List.set_cons_succ]
            refine wpAnyH_take (i := 1) (oi := { dst := some 105, op := Op.move (Operand.tmp 104), type := 4, pos := "law.go:99", after := #[{ on := 0, ground := Ground.data }, { on := 0, ground := Ground.chain }], guard := none }) (v := .bool true) rfl (by kernel_rfl) (by kernel_rfl) (by kernel_rfl) (fun _ _ _ h => h) (Or.inl ⟨by rfl, ?_⟩) (by assumption) ?_
            · intro w hSw
              (try dsimp only at hSw)
              go_simp
            try simp only [Act.put, List.setIfInBounds_toArray, List.set_cons_zero, List.set_cons_succ]
            refine wpAnyH_take (i := 2) (oi := { dst := some 106, op := Op.move (Operand.tmp 14), type := 47, pos := "law.go:99", after := #[{ on := 1, ground := Ground.guard }], guard := some (1, true) }) (v := .int .i64 0) rfl (by kernel_rfl) (by kernel_rfl) (by kernel_rfl) (fun _ _ _ h => h) (Or.inl ⟨by rfl, ?_⟩) (by assumption) ?_
            · intro w hSw
              (try dsimp only at hSw)
              go_simp
            try simp only [Act.put, List.setIfInBounds_toArray, List.set_cons_zero, List.set_cons_succ]
            refine wpAnyH_take (i := 3) (oi := { dst := some 107, op := Op.binOp BinOp.eql 47 (Operand.tmp 106) (Operand.const (Value.int IntKind.i64 0)) 47, type := 4, pos := "law.go:99", after := #[{ on := 2, ground := Ground.data }, { on := 1, ground := Ground.guard }], guard := some (1, true) }) (v := .bool true) rfl (by kernel_rfl) (by kernel_rfl) (by kernel_rfl) (fun _ _ _ h => h) (Or.inl ⟨by rfl, ?_⟩) (by assumption) ?_
            · intro w hSw
              (try dsimp only at hSw)
              go_simp
            try simp only [Act.put, List.setIfInBounds_toArray, List.set_cons_zero, List.set_cons_succ]
            refine wpAnyH_take (i := 4) (oi := { dst := some 108, op := Op.pick (Operand.tmp 105) (Operand.tmp 107) (Operand.const (Value.bool false)), type := 4, pos := "law.go:99", after := #[{ on := 1, ground := Ground.data }, { on := 3, ground := Ground.data }], guard := none }) (v := .bool true) rfl (by kernel_rfl) (by kernel_rfl) (by kernel_rfl) (fun _ _ _ h => h) (Or.inl ⟨by rfl, ?_⟩) (by assumption) ?_
            · intro w hSw
              (try dsimp only at hSw)
              go_simp
            try simp only [Act.put, List.setIfInBounds_toArray, List.set_cons_zero, List.set_cons_succ]
            refine wpAnyH_take (i := 5) (oi := { dst := some 109, op := Op.move (Operand.tmp 108), type := 4, pos := "law.go:99", after := #[{ on := 4, ground := Ground.data }, { on := 1, ground := Ground.chain }], guard := none }) (v := .bool true) rfl (by kernel_rfl) (by kernel_rfl) (by kernel_rfl) (fun _ _ _ h => h) (Or.inl ⟨by rfl, ?_⟩) (by assumption) ?_
            · intro w hSw
              (try dsimp only at hSw)
              go_simp
            try simp only [Act.put, List.setIfInBounds_toArray, List.set_cons_zero, List.set_cons_succ]
            refine wpAnyH_take (i := 6) (oi := { dst := some 110, op := Op.move (Operand.tmp 16), type := 47, pos := "law.go:99", after := #[{ on := 5, ground := Ground.guard }], guard := some (5, true) }) (v := .int .i64 0) rfl (by kernel_rfl) (by kernel_rfl) (by kernel_rfl) (fun _ _ _ h => h) (Or.inl ⟨by rfl, ?_⟩) (by assumption) ?_
            · intro w hSw
              (try dsimp only at hSw)
              go_simp
            try simp only [Act.put, List.setIfInBounds_toArray, List.set_cons_zero, List.set_cons_succ]
            refine wpAnyH_take (i := 7) (oi := { dst := some 111, op := Op.binOp BinOp.eql 47 (Operand.tmp 110) (Operand.const (Value.int IntKind.i64 0)) 47, type := 4, pos := "law.go:99", after := #[{ on := 6, ground := Ground.data }, { on := 5, ground := Ground.guard }], guard := some (5, true) }) (v := .bool true) rfl (by kernel_rfl) (by kernel_rfl) (by kernel_rfl) (fun _ _ _ h => h) (Or.inl ⟨by rfl, ?_⟩) (by assumption) ?_
            · intro w hSw
              (try dsimp only at hSw)
              go_simp
            try simp only [Act.put, List.setIfInBounds_toArray, List.set_cons_zero, List.set_cons_succ]
            refine wpAnyH_take (i := 8) (oi := { dst := some 112, op := Op.pick (Operand.tmp 109) (Operand.tmp 111) (Operand.const (Value.bool false)), type := 4, pos := "law.go:99", after := #[{ on := 5, ground := Ground.data }, { on := 7, ground := Ground.data }], guard := none }) (v := .bool true) rfl (by kernel_rfl) (by kernel_rfl) (by kernel_rfl) (fun _ _ _ h => h) (Or.inl ⟨by rfl, ?_⟩) (by assumption) ?_
            · intro w hSw
              (try dsimp only at hSw)
              go_simp
            try simp only [Act.put, List.setIfInBounds_toArray, List.set_cons_zero, List.set_cons_succ]
            refine wpAnyH_take (i := 9) (oi := { dst := some 113, op := Op.move (Operand.tmp 112), type := 4, pos := "law.go:99", after := #[{ on := 8, ground := Ground.data }, { on := 5, ground := Ground.chain }], guard := none }) (v := .bool true) rfl (by kernel_rfl) (by kernel_rfl) (by kernel_rfl) (fun _ _ _ h => h) (Or.inl ⟨by rfl, ?_⟩) (by assumption) ?_
            · intro w hSw
              (try dsimp only at hSw)
              go_simp
            try simp only [Act.put, List.setIfInBounds_toArray, List.set_cons_zero, List.set_cons_succ]
            refine wpAnyH_take (i := 10) (oi := { dst := some 114, op := Op.load 46 (Operand.tmp 13), type := 46, pos := "law.go:99", after := #[{ on := 9, ground := Ground.guard }], guard := some (9, true) }) (v := .agg #[.int .i64 W, .int .i64 H, .slice Aq m capq]) rfl (by kernel_rfl) (by kernel_rfl) (by kernel_rfl) (fun _ _ _ h => h) (Or.inl ⟨by rfl, ?_⟩) (by assumption) ?_
            · intro w hSw
              (try dsimp only at hSw)
              go_simp
            try simp only [Act.put, List.setIfInBounds_toArray, List.set_cons_zero, List.set_cons_succ]
            refine wpAnyH_take (i := 12) (oi := { dst := some 116, op := Op.load 38 (Operand.tmp 9), type := 38, pos := "law.go:99", after := #[{ on := 9, ground := Ground.guard }], guard := some (9, true) }) (v := .agg (tabL Fx).toArray) rfl (by kernel_rfl) (by kernel_rfl) (by kernel_rfl) (fun _ _ _ h => h) (yieldsIf_load_mid (by rfl) 38 _ rfl b9 0 rfl (tabL Fx) _ ?_ y1b rfl y2b) (by assumption) ?_
            · intro w hSw
              (try dsimp only at hSw)
              go_split_ands
              assumption
            try simp only [Act.put, List.setIfInBounds_toArray, List.set_cons_zero, List.set_cons_succ]
            refine wpAnyH_take (i := 13) (oi := { dst := some 117, op := Op.load 36 (Operand.tmp 5), type := 36, pos := "law.go:99", after := #[{ on := 9, ground := Ground.guard }], guard := some (9, true) }) (v := .agg #[.int .i64 W, .int .i64 H, .slice A2 m cap2]) rfl (by kernel_rfl) (by kernel_rfl) (by kernel_rfl) (fun _ _ _ h => h) (Or.inl ⟨by rfl, ?_⟩) (by assumption) ?_
            · intro w hSw
              (try dsimp only at hSw)
              go_simp
            try simp only [Act.put, List.setIfInBounds_toArray, List.set_cons_zero, List.set_cons_succ]
            refine wpAnyH_ready (rs := [11]) (by kernel_rfl) (by simp) ?_
            refine AllReadyH.cons (o := { dst := some 115, op := Op.call { callee := Callee.value (Operand.func 25), args := #[Operand.tmp 114], argTypes := #[46] }, type := 36, pos := "law.go:99", after := #[{ on := 10, ground := Ground.data }, { on := 9, ground := Ground.chain }, { on := 9, ground := Ground.guard }], guard := some (9, true) }) rfl (fun K' hK => ?_) AllReadyH.nil
            rw [if_pos (by rfl)]
            go_wp2_with (first | (go_at_call 10; refine (awake39_any _).mono ?_; rintro e w' ⟨rfl, y0, rfl⟩) | (go_at_call 25; refine (picfrom_any W H _ m _ _).mono ?_; rintro e w' ⟨rfl, y0, rfl⟩) | (go_at_call 29; refine (rapply_any Fx W H A2 m cap2 R G B _ (by omega) (HD.out.below (gr_below FW9.out (Fam.bel (Fam.back (by assumption))))) HB.out).mono ?_; rintro e w' ⟨v, rfl, ho, hb1⟩; obtain ⟨A8, cap8, rfl, hcap8, hcl8⟩ := ho.dots; have hs1 := hb1.size) | (go_at_call 24; refine (picsame_any W H Aq A8 m capq cap8 _ _ _ _ (by omega) (HC9.out.below (Fam.bel (Fam.back (by assumption)))) hcl8).mono ?_; rintro e w' ⟨rfl, y0, rfl⟩) | (go_at_call 30; refine (HSP.out _ (HD.out.below (gr_below FW9.out (Fam.bel (Fam.back (by assumption)))))).mono ?_; rintro e w' ⟨rfl, y0, rfl⟩))
            refine hK.out _ _ (by first | exact O7.out _ F7z.out.drew | exact O7.out _ ((Fam.back (by assumption)).ext _) | exact O7.out _ ((Fam.back (by assumption)).below (by assumption))) (fun hHeld => ?_)
            clear hK K'
            try simp only [Act.put, List.setIfInBounds_toArray, List.set_cons_zero, List.set_cons_succ]
            refine wpAnyH_ready (rs := [14]) (by kernel_rfl) (by simp) ?_
            refine AllReadyH.cons (o := { dst := some 118, op := Op.call { callee := Callee.value (Operand.func 29), args := #[Operand.tmp 116, Operand.tmp 117], argTypes := #[38, 36] }, type := 36, pos := "law.go:99", after := #[{ on := 12, ground := Ground.data }, { on := 13, ground := Ground.data }, { on := 11, ground := Ground.chain }, { on := 9, ground := Ground.guard }], guard := some (9, true) }) rfl (fun K' hK => ?_) AllReadyH.nil
            rw [if_pos (by rfl)]
            go_wp2_with (first | (go_at_call 10; refine (awake39_any _).mono ?_; rintro e w' ⟨rfl, y0, rfl⟩) | (go_at_call 25; refine (picfrom_any W H _ m _ _).mono ?_; rintro e w' ⟨rfl, y0, rfl⟩) | (go_at_call 29; refine (rapply_any Fx W H A2 m cap2 R G B _ (by omega) (HD.out.below (gr_below FW9.out (Fam.bel (Fam.back (by assumption))))) HB.out).mono ?_; rintro e w' ⟨v, rfl, ho, hb1⟩; obtain ⟨A8, cap8, rfl, hcap8, hcl8⟩ := ho.dots; have hs1 := hb1.size) | (go_at_call 24; refine (picsame_any W H Aq A8 m capq cap8 _ _ _ _ (by omega) (HC9.out.below (Fam.bel (Fam.back (by assumption)))) hcl8).mono ?_; rintro e w' ⟨rfl, y0, rfl⟩) | (go_at_call 30; refine (HSP.out _ (HD.out.below (gr_below FW9.out (Fam.bel (Fam.back (by assumption)))))).mono ?_; rintro e w' ⟨rfl, y0, rfl⟩))
            refine hK.out _ _ (by first | exact O7.out _ F7z.out.drew | exact O7.out _ ((Fam.back (by assumption)).ext _) | exact O7.out _ ((Fam.back (by assumption)).below (by assumption))) (fun hHeld => ?_)
            clear hK K'
            try simp only [Act.put, List.setIfInBounds_toArray, List.set_cons_zero, List.set_cons_succ]
            refine wpAnyH_ready (rs := [15]) (by kernel_rfl) (by simp) ?_
            refine AllReadyH.cons (o := { dst := some 119, op := Op.call { callee := Callee.value (Operand.func 24), args := #[Operand.tmp 115, Operand.tmp 118], argTypes := #[36, 36] }, type := 4, pos := "law.go:99", after := #[{ on := 11, ground := Ground.data }, { on := 14, ground := Ground.data }, { on := 14, ground := Ground.chain }, { on := 9, ground := Ground.guard }], guard := some (9, true) }) rfl (fun K' hK => ?_) AllReadyH.nil
            rw [if_pos (by rfl)]
            go_wp2_with (first | (go_at_call 10; refine (awake39_any _).mono ?_; rintro e w' ⟨rfl, y0, rfl⟩) | (go_at_call 25; refine (picfrom_any W H _ m _ _).mono ?_; rintro e w' ⟨rfl, y0, rfl⟩) | (go_at_call 29; refine (rapply_any Fx W H A2 m cap2 R G B _ (by omega) (HD.out.below (gr_below FW9.out (Fam.bel (Fam.back (by assumption))))) HB.out).mono ?_; rintro e w' ⟨v, rfl, ho, hb1⟩; obtain ⟨A8, cap8, rfl, hcap8, hcl8⟩ := ho.dots; have hs1 := hb1.size) | (go_at_call 24; refine (picsame_any W H Aq A8 m capq cap8 _ _ _ _ (by omega) (HC9.out.below (Fam.bel (Fam.back (by assumption)))) hcl8).mono ?_; rintro e w' ⟨rfl, y0, rfl⟩) | (go_at_call 30; refine (HSP.out _ (HD.out.below (gr_below FW9.out (Fam.bel (Fam.back (by assumption)))))).mono ?_; rintro e w' ⟨rfl, y0, rfl⟩))
            refine hK.out _ _ (by first | exact O7.out _ F7z.out.drew | exact O7.out _ ((Fam.back (by assumption)).ext _) | exact O7.out _ ((Fam.back (by assumption)).below (by assumption))) (fun hHeld => ?_)
            clear hK K'
            try simp only [Act.put, List.setIfInBounds_toArray, List.set_cons_zero, List.set_cons_succ]
            refine wpAnyH_take (i := 16) (oi := { dst := some 120, op := Op.pick (Operand.tmp 113) (Operand.tmp 119) (Operand.const (Value.bool false)), type := 4, pos := "law.go:99", after := #[{ on := 9, ground := Ground.data }, { on := 15, ground := Ground.data }], guard := none }) (v := .bool true) rfl (by kernel_rfl) (by kernel_rfl) (by kernel_rfl) (fun _ _ _ h => h) (Or.inl ⟨by rfl, ?_⟩) (by assumption) ?_
            · intro w hSw
              (try dsimp only at hSw)
              go_simp
            try simp only [Act.put, List.setIfInBounds_toArray, List.set_cons_zero, List.set_cons_succ]
            refine wpAnyH_take (i := 17) (oi := { dst := some 121, op := Op.move (Operand.tmp 120), type := 4, pos := "law.go:99", after := #[{ on := 16, ground := Ground.data }, { on := 15, ground := Ground.chain }], guard := none }) (v := .bool true) rfl (by kernel_rfl) (by kernel_rfl) (by kernel_rfl) (fun _ _ _ h => h) (Or.inl ⟨by rfl, ?_⟩) (by assumption) ?_
            · intro w hSw
              (try dsimp only at hSw)
              go_simp
            try simp only [Act.put, List.setIfInBounds_toArray, List.set_cons_zero, List.set_cons_succ]
            refine wpAnyH_take (i := 18) (oi := { dst := some 122, op := Op.load 39 (Operand.tmp 15), type := 39, pos := "law.go:99", after := #[{ on := 17, ground := Ground.guard }], guard := some (17, true) }) (v := .agg (tabL Sx).toArray) rfl (by kernel_rfl) (by kernel_rfl) (by kernel_rfl) (fun _ _ _ h => h) (yieldsIf_load_mid (by rfl) 39 _ rfl b15 0 rfl (tabL Sx) _ ?_ y1 rfl y2) (by assumption) ?_
            · intro w hSw
              (try dsimp only at hSw)
              go_split_ands
              assumption
            try simp only [Act.put, List.setIfInBounds_toArray, List.set_cons_zero, List.set_cons_succ]
            refine wpAnyH_take (i := 19) (oi := { dst := some 123, op := Op.load 36 (Operand.tmp 5), type := 36, pos := "law.go:99", after := #[{ on := 17, ground := Ground.guard }], guard := some (17, true) }) (v := .agg #[.int .i64 W, .int .i64 H, .slice A2 m cap2]) rfl (by kernel_rfl) (by kernel_rfl) (by kernel_rfl) (fun _ _ _ h => h) (Or.inl ⟨by rfl, ?_⟩) (by assumption) ?_
            · intro w hSw
              (try dsimp only at hSw)
              go_simp
            try simp only [Act.put, List.setIfInBounds_toArray, List.set_cons_zero, List.set_cons_succ]
            refine wpAnyH_ready (rs := [20]) (by kernel_rfl) (by simp) ?_
            refine AllReadyH.cons (o := { dst := some 124, op := Op.call { callee := Callee.value (Operand.func 30), args := #[Operand.tmp 123], argTypes := #[36] }, type := 38, pos := "law.go:99", after := #[{ on := 19, ground := Ground.data }, { on := 17, ground := Ground.chain }, { on := 17, ground := Ground.guard }], guard := some (17, true) }) rfl (fun K' hK => ?_) AllReadyH.nil
            rw [if_pos (by rfl)]
            go_wp2_with (first | (go_at_call 10; refine (awake39_any _).mono ?_; rintro e w' ⟨rfl, y0, rfl⟩) | (go_at_call 25; refine (picfrom_any W H _ m _ _).mono ?_; rintro e w' ⟨rfl, y0, rfl⟩) | (go_at_call 29; refine (rapply_any Fx W H A2 m cap2 R G B _ (by omega) (HD.out.below (gr_below FW9.out (Fam.bel (Fam.back (by assumption))))) HB.out).mono ?_; rintro e w' ⟨v, rfl, ho, hb1⟩; obtain ⟨A8, cap8, rfl, hcap8, hcl8⟩ := ho.dots; have hs1 := hb1.size) | (go_at_call 24; refine (picsame_any W H Aq A8 m capq cap8 _ _ _ _ (by omega) (HC9.out.below (Fam.bel (Fam.back (by assumption)))) hcl8).mono ?_; rintro e w' ⟨rfl, y0, rfl⟩) | (go_at_call 30; refine (HSP.out _ (HD.out.below (gr_below FW9.out (Fam.bel (Fam.back (by assumption)))))).mono ?_; rintro e w' ⟨rfl, y0, rfl⟩))
            refine hK.out _ _ (by first | exact O7.out _ F7z.out.drew | exact O7.out _ ((Fam.back (by assumption)).ext _) | exact O7.out _ ((Fam.back (by assumption)).below (by assumption))) (fun hHeld => ?_)
            clear hK K'
            try simp only [Act.put, List.setIfInBounds_toArray, List.set_cons_zero, List.set_cons_succ]
            refine wpAnyH_take (i := 21) (oi := { dst := some 125, op := Op.binOp BinOp.eql 39 (Operand.tmp 122) (Operand.tmp 124) 39, type := 4, pos := "law.go:99", after := #[{ on := 18, ground := Ground.data }, { on := 20, ground := Ground.data }, { on := 17, ground := Ground.guard }], guard := some (17, true) }) (v := .bool true) rfl (by kernel_rfl) (by kernel_rfl) (by kernel_rfl) (fun _ _ _ h => h) (Or.inl ⟨by rfl, ?_⟩) (by assumption) ?_
            · intro w hSw
              (try dsimp only at hSw)
              go_simp
            try simp only [Act.put, List.setIfInBounds_toArray, List.set_cons_zero, List.set_cons_succ]
            refine wpAnyH_take (i := 22) (oi := { dst := some 126, op := Op.pick (Operand.tmp 121) (Operand.tmp 125) (Operand.const (Value.bool false)), type := 4, pos := "law.go:99", after := #[{ on := 17, ground := Ground.data }, { on := 21, ground := Ground.data }], guard := none }) (v := .bool true) rfl (by kernel_rfl) (by kernel_rfl) (by kernel_rfl) (fun _ _ _ h => h) (Or.inl ⟨by rfl, ?_⟩) (by assumption) ?_
            · intro w hSw
              (try dsimp only at hSw)
              go_simp
            try simp only [Act.put, List.setIfInBounds_toArray, List.set_cons_zero, List.set_cons_succ]
            refine wpAnyH_take (i := 23) (oi := { dst := some 6, op := Op.assign (Operand.tmp 126), type := 4, pos := "law.go:99", after := #[{ on := 22, ground := Ground.data }, { on := 20, ground := Ground.chain }, { on := 0, ground := Ground.phase }, { on := 1, ground := Ground.phase }, { on := 2, ground := Ground.phase }, { on := 3, ground := Ground.phase }, { on := 4, ground := Ground.phase }, { on := 5, ground := Ground.phase }, { on := 6, ground := Ground.phase }, { on := 7, ground := Ground.phase }, { on := 8, ground := Ground.phase }, { on := 9, ground := Ground.phase }, { on := 10, ground := Ground.phase }, { on := 11, ground := Ground.phase }, { on := 12, ground := Ground.phase }, { on := 13, ground := Ground.phase }, { on := 14, ground := Ground.phase }, { on := 15, ground := Ground.phase }, { on := 16, ground := Ground.phase }, { on := 17, ground := Ground.phase }, { on := 18, ground := Ground.phase }, { on := 19, ground := Ground.phase }, { on := 20, ground := Ground.phase }, { on := 21, ground := Ground.phase }, { on := 22, ground := Ground.phase }], guard := none }) (v := .bool true) rfl (by kernel_rfl) (by kernel_rfl) (by kernel_rfl) (fun _ _ _ h => h) (Or.inl ⟨by rfl, ?_⟩) (by assumption) ?_
            · intro w hSw
              (try dsimp only at hSw)
              go_simp
            try simp only [Act.put, List.setIfInBounds_toArray, List.set_cons_zero, List.set_cons_succ]
            refine wpAnyH_done (by kernel_rfl) ?_ _
            have k9 := gr_below FW9.out (Fam.bel (Fam.back (by assumption)))
            go_wp2
            go_ret
            exact ⟨rfl, Grew.of k9⟩
end Go.Proofs.Ytneegcnidoopmaa

