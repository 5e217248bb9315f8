/- Contract of grade.Spread: the table that stretches a picture's bytes. Conditions: the dots lie behind the slice. -/
import Derived.Test.YtneegcnidoopmaaJ
import Derived.Test.YtneegcnidoopmaaR
import Derived.Test.YtneegcnidoopmaaS2
namespace Go.Proofs.Ytneegcnidoopmaa
open Go.RowKit

/-- n dots lie behind A. -/
def Cells3 (w : World) (A : Option Addr) (n : Nat) (R G B : Nat → Int) : Prop :=
  0 < n → ∃ b off, A = some ⟨b, off, none⟩ ∧ ∀ i, i < n → w.cell? ⟨b, off + i * 3, none⟩ = some (.int .u8 (R i)) ∧ w.cell? ⟨b, off + i * 3 + 1, none⟩ = some (.int .u8 (G i)) ∧ w.cell? ⟨b, off + i * 3 + 2, none⟩ = some (.int .u8 (B i))
theorem Cells3.below {w w1 : World} {A : Option Addr} {n : Nat} {R G B : Nat → Int} (h : Cells3 w A n R G B) (hb : Below w.heap.size w w1) : Cells3 w1 A n R G B := by
  intro hn
  obtain ⟨b, off, e, hc⟩ := h hn
  exact ⟨b, off, e, fun i hi => ⟨cell_later hb (hc i hi).1, cell_later hb (hc i hi).2.1, cell_later hb (hc i hi).2.2⟩⟩
theorem Cells3.ext {w : World} {A : Option Addr} {n : Nat} {R G B : Nat → Int} (h : Cells3 w A n R G B) (x : Ext w) : Cells3 x.val A n R G B := h.below x.below

set_option maxRecDepth 100000 in
set_option maxHeartbeats 1000000 in
theorem spread_any (W H : Int) (A : Option Addr) (n cap : Nat) (R G B : Nat → Int) (w : World) (hp : picB W H n = true) (hc : Cells3 w A n R G B) (hB : Bytes3 R G B n) :
    Calls Try.prog 28 #[.agg #[.int .i64 W, .int .i64 H, .slice A n cap]] w fun e w' => e = .returned (.tuple #[.agg (tab (spreadF (lowF R G B n) (highF R G B n))), .int .i64 0]) ∧ Grew w w' := by
  have hn := picB_len hp
  have P := Lib.hid hp
  have HC := Lib.hid hc
  have HB := Lib.hid hB
  clear hp hc hB
  have i0 : ∀ (a b c : Value) (w : World), (Instr.index 133 (.agg #[a, b, c]) (.int .i64 0)).run Try.prog w = .ok a w := fun _ _ _ _ => by kernel_rfl
  have i1 : ∀ (a b c : Value) (w : World), (Instr.index 133 (.agg #[a, b, c]) (.int .i64 1)).run Try.prog w = .ok b w := fun _ _ _ _ => by kernel_rfl
  have i2 : ∀ (a b c : Value) (w : World), (Instr.index 133 (.agg #[a, b, c]) (.int .i64 2)).run Try.prog w = .ok c w := fun _ _ _ _ => by kernel_rfl
  go_enter Try.func28, Try.ntmps28
  go_wp2_with (go_at_call 61; refine (pic_right_any _ _ _ _ _ _).mono ?_; rintro e w' ⟨rfl, x0, rfl⟩; rw [P.out])
  go_loopw [4, 5, 19] (fun lo hi i wr => ∃ k : Nat, k ≤ n ∧ i = .int .i64 k ∧ lo = .int .i64 (lowF R G B k) ∧ hi = .int .i64 (highF R G B k) ∧ Below w.heap.size w wr ∧ Blk wr (w.heap.size + 1) Try.zeroCells39 39) (fun _ _ i _ => n - (intOf i).toNat)
  case atStart => exact ⟨0, by omega, rfl, rfl, rfl, (by repeat (first | assumption | exact gr_refl _ | refine gr_alloc ?_ _ | refine gr_drew ?_ | refine gr_drewN ?_ _ | refine gr_ext ?_ _ | (refine gr_set ?_ ?_ _; rotate_left; (simp <;> omega)))), (by repeat (first | assumption | (refine Blk.at_ _ _ ?_; simp; done) | refine Blk.alloc ?_ _ | refine Blk.drew ?_ | refine Blk.ext ?_ _ | exact Blk.set (by assumption) _ _ | (refine Blk.other ?_ ?_ _; rotate_left; (simp <;> omega))))⟩
  case round =>
    obtain ⟨k, hk, rfl, rfl, rfl, hb, hbl⟩ := hrel
    by_cases hlt : k < n
    · obtain ⟨b, off, rfl, hcell⟩ := HC.out (by omega)
      obtain ⟨q0, q1, q2⟩ := hcell k hlt
      have c0 := cell_later hb q0
      have c1 := cell_later hb q1
      have c2 := cell_later hb q2
      obtain ⟨r1, r2, r3, r4, r5, r6⟩ := HB.out k hlt
      have l1 := lowF_bd (n := k) (fun i hi => HB.out i (by omega))
      have l2 := highF_bd (n := k) (fun i hi => HB.out i (by omega))
      have s1 : lowF R G B (k + 1) = min (min (min (lowF R G B k) (R k)) (G k)) (B k) := rfl
      have s2 : highF R G B (k + 1) = max (max (max (highF R G B k) (R k)) (G k)) (B k) := rfl
      have S1 := Lib.hid s1
      have S2 := Lib.hid s2
      have HBL := Lib.hid hbl
      have lbl := hbl.lt
      clear s1 s2 hcell q0 q1 q2 hbl
      generalize lowF R G B k = lo at *
      generalize highF R G B k = hi at *
      go_wp2
      refine wp_loop_rounds 4 ?_
      rw [rounds_succ]
      go_wp2
      all_goals (rw [rounds_succ]; go_wp2)
      all_goals (rw [rounds_succ]; go_wp2)
      all_goals (rw [rounds_succ]; go_wp2)
      all_goals
        go_roundw
        case rel => exact ⟨k + 1, by omega, by go_num, by rw [S1.out]; congr 1; omega, by rw [S2.out]; congr 1; omega, (by repeat (first | assumption | exact gr_refl _ | refine gr_alloc ?_ _ | refine gr_drew ?_ | refine gr_drewN ?_ _ | refine gr_ext ?_ _ | (refine gr_set ?_ ?_ _; rotate_left; (simp <;> omega)))), by have := HBL.out; exact (by repeat (first | assumption | (refine Blk.at_ _ _ ?_; simp; done) | refine Blk.alloc ?_ _ | refine Blk.drew ?_ | refine Blk.ext ?_ _ | exact Blk.set (by assumption) _ _ | (refine Blk.other ?_ ?_ _; rotate_left; (simp <;> omega))))⟩
        case measure => simp [intOf]; omega
    · obtain rfl : n = k := by omega
      have l1 := lowF_bd (n := n) (fun i hi => HB.out i (by omega))
      have l2 := highF_bd (n := n) (fun i hi => HB.out i (by omega))
      generalize elo : lowF R G B n = lo at *
      generalize ehi : highF R G B n = hi at *
      have ELO := Lib.hid elo
      have EHI := Lib.hid ehi
      clear elo ehi
      have HBL := Lib.hid hbl
      have lbl := hbl.lt
      clear hbl
      have z : Try.zeroCells39 = tab (fun _ => 0) := by kernel_rfl
      have Z := Lib.hid z
      clear z
      have bds := fun i hi' => spreadF_bd (a := lo) (b := hi) (n := i) l1.1 l2.2 hi'
      have BD := Lib.hid bds
      clear bds
      obtain ⟨wo, rfl⟩ : ∃ wo : World, wo = wr := ⟨_, rfl⟩
      go_wp2
      go_loopw [37] (fun i wr => ∃ k : Nat, k ≤ 256 ∧ i = .int .i64 k ∧ Below w.heap.size w wr ∧ Blk wr (w.heap.size + 1) Try.zeroCells39 39 ∧ Blk wr wo.heap.size (tab (done (spreadF lo hi) k)) 39) (fun i _ => 256 - (intOf i).toNat)
      case atStart =>
        have e0 : tab (done (spreadF lo hi) 0) = Try.zeroCells39 := by rw [Z.out]; exact tab_congr fun i _ => if_neg (by omega)
        exact ⟨0, by omega, rfl, (by repeat (first | assumption | exact gr_refl _ | refine gr_alloc ?_ _ | refine gr_drew ?_ | refine gr_drewN ?_ _ | refine gr_ext ?_ _ | (refine gr_set ?_ ?_ _; rotate_left; (simp <;> omega)))), by have := HBL.out; exact (by repeat (first | assumption | (refine Blk.at_ _ _ ?_; simp; done) | refine Blk.alloc ?_ _ | refine Blk.drew ?_ | refine Blk.ext ?_ _ | exact Blk.set (by assumption) _ _ | (refine Blk.other ?_ ?_ _; rotate_left; (simp <;> omega)))), by rw [e0]; exact (by repeat (first | assumption | (refine Blk.at_ _ _ ?_; simp; done) | refine Blk.alloc ?_ _ | refine Blk.drew ?_ | refine Blk.ext ?_ _ | exact Blk.set (by assumption) _ _ | (refine Blk.other ?_ ?_ _; rotate_left; (simp <;> omega))))⟩
      case round =>
        obtain ⟨k, hk, rfl, hb', hz, ht⟩ := hrel
        have lz := hz.lt
        have lt := ht.lt
        have HZ := Lib.hid hz
        have HT := Lib.hid ht
        have ft := ht.frozen
        clear hz ht
        by_cases hkk : k < 256
        · have ct : wr.cell? ⟨wo.heap.size, k, none⟩ = some (.int .u8 (done (spreadF lo hi) k k)) := by rw [HT.out.cell, tab_get _ hkk]
          have ev : ∀ v, v = spreadF lo hi k → Blk (wr.setCell ⟨wo.heap.size, k, none⟩ (.int .u8 v)) wo.heap.size (tab (done (spreadF lo hi) (k + 1))) 39 := by
            rintro v rfl
            have := HT.out.set k (.int .u8 (spreadF lo hi k))
            rwa [done_set] at this
          have EV := Lib.hid ev
          clear ev
          generalize done (spreadF lo hi) k k = old at *
          by_cases hlh : lo < hi
          · have e1 : spreadF lo hi k = 255 * (max lo (min (k : Int) hi) - lo) / (hi - lo) := if_pos hlh
            have E1 := Lib.hid e1
            clear e1
            go_wp2
            go_roundw
            case rel =>
              refine ⟨k + 1, by omega, by go_num, (by repeat (first | assumption | exact gr_refl _ | refine gr_alloc ?_ _ | refine gr_drew ?_ | refine gr_drewN ?_ _ | refine gr_ext ?_ _ | (refine gr_set ?_ ?_ _; rotate_left; (simp <;> omega)))), by have := HZ.out; exact (by repeat (first | assumption | (refine Blk.at_ _ _ ?_; simp; done) | refine Blk.alloc ?_ _ | refine Blk.drew ?_ | refine Blk.ext ?_ _ | exact Blk.set (by assumption) _ _ | (refine Blk.other ?_ ?_ _; rotate_left; (simp <;> omega)))), EV.out _ ?_⟩
              have bd := BD.out k hkk
              rw [E1.out] at bd ⊢
              have ei : (if lo < (if hi < (k : Int) then hi else (k : Int)) then (if hi < (k : Int) then hi else (k : Int)) else lo) = max lo (min (k : Int) hi) := by omega
              rw [ei]
              exact Int.emod_eq_of_lt bd.1 (by omega)
            case measure => simp [intOf]; omega
          · have e1 : spreadF lo hi k = k := if_neg hlh
            have E1 := Lib.hid e1
            clear e1
            go_wp2
            go_roundw
            case rel =>
              refine ⟨k + 1, by omega, by go_num, (by repeat (first | assumption | exact gr_refl _ | refine gr_alloc ?_ _ | refine gr_drew ?_ | refine gr_drewN ?_ _ | refine gr_ext ?_ _ | (refine gr_set ?_ ?_ _; rotate_left; (simp <;> omega)))), by have := HZ.out; exact (by repeat (first | assumption | (refine Blk.at_ _ _ ?_; simp; done) | refine Blk.alloc ?_ _ | refine Blk.drew ?_ | refine Blk.ext ?_ _ | exact Blk.set (by assumption) _ _ | (refine Blk.other ?_ ?_ _; rotate_left; (simp <;> omega)))), EV.out _ ?_⟩
              rw [E1.out]
            case measure => simp [intOf]; omega
        · obtain rfl : k = 256 := by omega
          go_wp2_with (first | (refine wpList_load_row rfl 39 _ rfl wo.heap.size rfl 39 _ (0, 0) _ HT.out.heap Try.underlying39 rfl (by kernel_rfl) ?_) | (refine wpList_store_row rfl 39 _ _ rfl (w.heap.size + 1) _ rfl rfl 39 _ HZ.out.heap (by kernel_rfl) (by kernel_rfl) (by kernel_rfl) ?_))
          have hz := HZ.out
          refine bodyPost_ret (results_cell_tmp_blk rfl _ _ (w.heap.size + 1) 39 _ _ rfl (hz.setRow _) Try.underlying39 rfl (by kernel_rfl)) rfl ⟨?_, Grew.of (gr_setRow hb' (by omega) _)⟩
          rw [done_all, ELO.out, EHI.out]
          rfl
end Go.Proofs.Ytneegcnidoopmaa
