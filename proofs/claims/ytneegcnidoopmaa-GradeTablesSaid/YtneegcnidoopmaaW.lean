/- Contract of ref39.Spread. Conditions: a picture of at least one dot; the dots lie behind the slice and are bytes. -/
import Derived.Test.YtneegcnidoopmaaK
import Derived.Test.YtneegcnidoopmaaS4
namespace Go.Proofs.Ytneegcnidoopmaa
open Go.RowKit

set_option maxRecDepth 100000 in
set_option maxHeartbeats 2000000 in
theorem rspread_any (W H : Int) (A : Option Addr) (n cap : Nat) (R G B : Nat → Int) (w : World) (h0 : 0 < n) (hn : n ≤ 1000000) (hc : Cells3 w A n R G B) (hB : Bytes3 R G B n) :
    Calls Try.prog 30 #[.agg #[.int .i64 W, .int .i64 H, .slice A n cap]] w fun e w' => e = .returned (.agg (tab (spreadF (lowF R G B n) (highF R G B n)))) ∧ Grew w w' := by
  have zt : Try.zeroCells38 = tab (fun _ => 0) := by kernel_rfl
  have zb : Try.zeroCells146 = btab (fun _ => false) := by kernel_rfl
  have ZT := Lib.hid zt
  have ZB := Lib.hid zb
  have HC := Lib.hid hc
  have HB := Lib.hid hB
  clear zt zb hc hB
  go_enter Try.func30, Try.ntmps30
  go_wp2
  go_loopw [4] (fun i wr => ∃ k : Nat, k ≤ n ∧ i = .int .i64 k ∧ Below w.heap.size w wr ∧ Blk wr w.heap.size #[.int .i64 W, .int .i64 H, .slice A n cap] 36 ∧ Blk wr (w.heap.size + 1) Try.zeroCells38 38 ∧ Blk wr (w.heap.size + 1 + 1) (btab (seenF R G B k)) 146) (fun i _ => n - (intOf i).toNat)
  case atStart =>
    have e0 : btab (seenF R G B 0) = Try.zeroCells146 := by rw [ZB.out]; rfl
    exact ⟨0, by omega, rfl, (by repeat (first | assumption | exact gr_refl _ | refine gr_alloc ?_ _ | refine gr_drew ?_ | refine gr_drewN ?_ _ | refine gr_ext ?_ _ | (refine gr_set ?_ ?_ _; rotate_left; (simp <;> omega)))), (by repeat (first | assumption | (refine Blk.at_ _ _ ?_; simp; done) | refine Blk.alloc ?_ _ | refine Blk.drew ?_ | refine Blk.ext ?_ _ | exact Blk.set (by assumption) _ _ | (refine Blk.other ?_ ?_ _; rotate_left; (simp <;> omega)))), (by repeat (first | assumption | (refine Blk.at_ _ _ ?_; simp; done) | refine Blk.alloc ?_ _ | refine Blk.drew ?_ | refine Blk.ext ?_ _ | exact Blk.set (by assumption) _ _ | (refine Blk.other ?_ ?_ _; rotate_left; (simp <;> omega)))), by rw [e0]; exact (by repeat (first | assumption | (refine Blk.at_ _ _ ?_; simp; done) | refine Blk.alloc ?_ _ | refine Blk.drew ?_ | refine Blk.ext ?_ _ | exact Blk.set (by assumption) _ _ | (refine Blk.other ?_ ?_ _; rotate_left; (simp <;> omega))))⟩
  case round =>
    obtain ⟨k, hk, rfl, hb, hp, hz, hs⟩ := hrel
    have cp := hp.cell
    have lp := hp.lt
    have lz := hz.lt
    have ls := hs.lt
    have fs := hs.frozen
    have HP := Lib.hid hp
    have HZ := Lib.hid hz
    have HS := Lib.hid hs
    clear hp hz hs
    by_cases hlt : k < n
    · obtain ⟨b, off, rfl, hcell⟩ := HC.out (by omega)
      obtain ⟨q0, q1, q2⟩ := hcell k hlt
      have c0 := cell_later hb q0
      have c1 := cell_later hb q1
      have c2 := cell_later hb q2
      obtain ⟨r1, r2, r3, r4, r5, r6⟩ := HB.out k hlt
      have lb : b < w.heap.size := World.block_lt_of_cell? _ _ q0
      obtain ⟨qr, hqr⟩ : ∃ q : Nat, R k = q := ⟨(R k).toNat, by omega⟩
      obtain ⟨qg, hqg⟩ : ∃ q : Nat, G k = q := ⟨(G k).toNat, by omega⟩
      obtain ⟨qb, hqb⟩ : ∃ q : Nat, B k = q := ⟨(B k).toNat, by omega⟩
      rw [hqr] at c0 r1 r2
      rw [hqg] at c1 r3 r4
      rw [hqb] at c2 r5 r6
      have ee := seenJ_end hqr hqg hqb
      have EE := Lib.hid ee
      clear ee hqr hqg hqb hcell q0 q1 q2
      go_wp2
      go_loopw [5] (fun j wr => ∃ q : Nat, q ≤ 3 ∧ j = .int .i64 q ∧ Below w.heap.size w wr ∧ Blk wr w.heap.size #[.int .i64 W, .int .i64 H, .slice (some ⟨b, off, none⟩) n cap] 36 ∧ Blk wr (w.heap.size + 1) Try.zeroCells38 38 ∧ Blk wr (w.heap.size + 1 + 1) (btab (seenJ (seenF R G B k) qr qg qb q)) 146 ∧ wr.cell? ⟨b, off + k * 3, none⟩ = some (.int .u8 qr) ∧ wr.cell? ⟨b, off + k * 3 + 1, none⟩ = some (.int .u8 qg) ∧ wr.cell? ⟨b, off + k * 3 + 2, none⟩ = some (.int .u8 qb)) (fun j _ => 3 - (intOf j).toNat)
      case atStart => exact ⟨0, by omega, rfl, hb, HP.out, HZ.out, HS.out, c0, c1, c2⟩
      case round =>
        obtain ⟨q, hq, rfl, hb2, hp2, hz2, hs2, d0, d1, d2⟩ := hrel
        have cp2 := hp2.cell
        have lp2 := hp2.lt
        have ls2 := hs2.lt
        have fs2 := hs2.frozen
        have oc : ∀ j, j < 256 → ∃ s, wr.cell? ⟨w.heap.size + 1 + 1, j, none⟩ = some (.bool s) := fun j hj => ⟨_, by rw [hs2.cell, btab_get _ hj]⟩
        obtain ⟨s0, o0⟩ := oc qr (by omega)
        obtain ⟨s1, o1⟩ := oc qg (by omega)
        obtain ⟨s2, o2⟩ := oc qb (by omega)
        have nb : b ≠ w.heap.size + 1 + 1 := by omega
        have HP2 := Lib.hid hp2
        have HZ2 := Lib.hid hz2
        have HS2 := Lib.hid hs2
        clear hp2 hz2 oc
        have hq' : q = 0 ∨ q = 1 ∨ q = 2 ∨ q = 3 := by omega
        rcases hq' with rfl | rfl | rfl | rfl
        · clear hs2
          go_wp2
          go_roundw
          case rel =>
            refine ⟨1, by omega, by go_num, (by repeat (first | assumption | exact gr_refl _ | refine gr_alloc ?_ _ | refine gr_drew ?_ | refine gr_drewN ?_ _ | refine gr_ext ?_ _ | (refine gr_set ?_ ?_ _; rotate_left; (simp <;> omega)))), by have := HP2.out; exact (by repeat (first | assumption | (refine Blk.at_ _ _ ?_; simp; done) | refine Blk.alloc ?_ _ | refine Blk.drew ?_ | refine Blk.ext ?_ _ | exact Blk.set (by assumption) _ _ | (refine Blk.other ?_ ?_ _; rotate_left; (simp <;> omega)))), by have := HZ2.out; exact (by repeat (first | assumption | (refine Blk.at_ _ _ ?_; simp; done) | refine Blk.alloc ?_ _ | refine Blk.drew ?_ | refine Blk.ext ?_ _ | exact Blk.set (by assumption) _ _ | (refine Blk.other ?_ ?_ _; rotate_left; (simp <;> omega)))), ?_, by go_simp, by go_simp, by go_simp⟩
            have := HS2.out.set qr (.bool true)
            rwa [btab_set] at this
          case measure => simp [intOf]
        · clear hs2
          go_wp2
          go_roundw
          case rel =>
            refine ⟨2, by omega, by go_num, (by repeat (first | assumption | exact gr_refl _ | refine gr_alloc ?_ _ | refine gr_drew ?_ | refine gr_drewN ?_ _ | refine gr_ext ?_ _ | (refine gr_set ?_ ?_ _; rotate_left; (simp <;> omega)))), by have := HP2.out; exact (by repeat (first | assumption | (refine Blk.at_ _ _ ?_; simp; done) | refine Blk.alloc ?_ _ | refine Blk.drew ?_ | refine Blk.ext ?_ _ | exact Blk.set (by assumption) _ _ | (refine Blk.other ?_ ?_ _; rotate_left; (simp <;> omega)))), by have := HZ2.out; exact (by repeat (first | assumption | (refine Blk.at_ _ _ ?_; simp; done) | refine Blk.alloc ?_ _ | refine Blk.drew ?_ | refine Blk.ext ?_ _ | exact Blk.set (by assumption) _ _ | (refine Blk.other ?_ ?_ _; rotate_left; (simp <;> omega)))), ?_, by go_simp, by go_simp, by go_simp⟩
            have := HS2.out.set qg (.bool true)
            rwa [btab_set] at this
          case measure => simp [intOf]
        · clear hs2
          go_wp2
          go_roundw
          case rel =>
            refine ⟨3, by omega, by go_num, (by repeat (first | assumption | exact gr_refl _ | refine gr_alloc ?_ _ | refine gr_drew ?_ | refine gr_drewN ?_ _ | refine gr_ext ?_ _ | (refine gr_set ?_ ?_ _; rotate_left; (simp <;> omega)))), by have := HP2.out; exact (by repeat (first | assumption | (refine Blk.at_ _ _ ?_; simp; done) | refine Blk.alloc ?_ _ | refine Blk.drew ?_ | refine Blk.ext ?_ _ | exact Blk.set (by assumption) _ _ | (refine Blk.other ?_ ?_ _; rotate_left; (simp <;> omega)))), by have := HZ2.out; exact (by repeat (first | assumption | (refine Blk.at_ _ _ ?_; simp; done) | refine Blk.alloc ?_ _ | refine Blk.drew ?_ | refine Blk.ext ?_ _ | exact Blk.set (by assumption) _ _ | (refine Blk.other ?_ ?_ _; rotate_left; (simp <;> omega)))), ?_, by go_simp, by go_simp, by go_simp⟩
            have := HS2.out.set qb (.bool true)
            rwa [btab_set] at this
          case measure => simp [intOf]
        · rw [EE.out] at hs2
          have HS3 := Lib.hid hs2
          clear hs2 HS2
          go_wp2
          go_roundw
          case rel => exact ⟨k + 1, by omega, by go_num, hb2, HP2.out, HZ2.out, HS3.out⟩
          case measure => simp [intOf]; omega
    · obtain rfl : n = k := by omega
      have l1 := lowF_bd (n := n) (fun i hi => HB.out i (by omega))
      have l2 := highF_bd (n := n) (fun i hi => HB.out i (by omega))
      have hle := low_le (n := n) HB.out
      have hsn := low_seen (n := n) HB.out h0
      obtain ⟨lo, elo⟩ : ∃ q : Nat, lowF R G B n = q := ⟨(lowF R G B n).toNat, by omega⟩
      obtain ⟨hi, ehi⟩ : ∃ q : Nat, highF R G B n = q := ⟨(highF R G B n).toNat, by omega⟩
      rw [elo, ehi] at hsn hle
      rw [elo] at l1
      rw [ehi] at l2
      simp only [Int.toNat_natCast] at hsn
      have hlh := (hle lo hsn.1).2
      have x1 : lo < 256 := by omega
      have x2 : hi < 256 := by omega
      have oc : ∀ j, j < 256 → wr.cell? ⟨w.heap.size + 1 + 1, j, none⟩ = some (.bool (seenF R G B n j)) := fun j hj => by rw [HS.out.cell, btab_get _ hj]
      have olo : wr.cell? ⟨w.heap.size + 1 + 1, lo, none⟩ = some (.bool true) := by rw [oc lo x1, hsn.1]
      have ohi : wr.cell? ⟨w.heap.size + 1 + 1, hi, none⟩ = some (.bool true) := by rw [oc hi x2, hsn.2]
      have obl : ∀ j, j < lo → wr.cell? ⟨w.heap.size + 1 + 1, j, none⟩ = some (.bool false) := fun j hj => by
        rw [oc j (by omega)]
        cases hz : seenF R G B n j with
        | false => rfl
        | true => have := (hle j hz).1; omega
      have oab : ∀ j, hi < j → j < 256 → wr.cell? ⟨w.heap.size + 1 + 1, j, none⟩ = some (.bool false) := fun j hj hj2 => by
        rw [oc j hj2]
        cases hz : seenF R G B n j with
        | false => rfl
        | true => have := (hle j hz).2; omega
      have OBL := Lib.hid obl
      have OAB := Lib.hid oab
      have ELO := Lib.hid elo
      have EHI := Lib.hid ehi
      clear obl oab elo ehi oc hle hsn fs
      obtain ⟨wo, rfl⟩ : ∃ wo : World, wo = wr := ⟨_, rfl⟩
      go_wp2
      go_loopw [6] (fun i wr => ∃ q : Nat, q ≤ lo ∧ i = .int .i64 q ∧ wr = wo) (fun i _ => 256 - (intOf i).toNat)
      case atStart => exact ⟨0, by omega, rfl, rfl⟩
      case round =>
        obtain ⟨q, hq, rfl, rfl⟩ := hrel
        by_cases hql : q < lo
        · have oq := OBL.out q hql
          go_wp2
          go_roundw
          case rel => exact ⟨q + 1, by omega, by go_num, trivial⟩
          case measure => simp [intOf]; omega
        · obtain rfl : lo = q := by omega
          obtain ⟨w5, rfl⟩ : ∃ w5 : World, w5 = wr := ⟨_, rfl⟩
          go_wp2
          go_loopw [7] (fun i wr => ∃ q : Nat, hi ≤ q ∧ q < 256 ∧ i = .int .i64 q ∧ wr = w5) (fun i _ => (intOf i).toNat)
          case atStart => exact ⟨255, by omega, by omega, rfl, rfl⟩
          case round =>
            obtain ⟨q, hq, hq2, rfl, rfl⟩ := hrel
            by_cases hqh : hi < q
            · have oq := OAB.out q hqh hq2
              go_wp2
              go_roundw
              case rel => exact ⟨q - 1, by omega, by omega, by go_num, trivial⟩
              case measure => simp [intOf]; omega
            · obtain rfl : hi = q := by omega
              obtain ⟨w6, rfl⟩ : ∃ w6 : World, w6 = wr := ⟨_, rfl⟩
              have HE : Hid (Below w.heap.size w w6) := hb
              go_wp2
              go_loopw [9] (fun i wr => ∃ k : Nat, k ≤ 256 ∧ i = .int .i64 k ∧ Below w.heap.size w wr ∧ Blk wr (w.heap.size + 1) Try.zeroCells38 38 ∧ Blk wr w6.heap.size (tab (done (spreadF lo hi) k)) 38) (fun i _ => 256 - (intOf i).toNat)
              case atStart =>
                have e0 : tab (done (spreadF lo hi) 0) = Try.zeroCells38 := by rw [ZT.out]; exact tab_congr fun i _ => if_neg (by omega)
                exact ⟨0, by omega, rfl, by have := HE.out; exact (by repeat (first | assumption | exact gr_refl _ | refine gr_alloc ?_ _ | refine gr_drew ?_ | refine gr_drewN ?_ _ | refine gr_ext ?_ _ | (refine gr_set ?_ ?_ _; rotate_left; (simp <;> omega)))), by have := HZ.out; exact (by repeat (first | assumption | (refine Blk.at_ _ _ ?_; simp; done) | refine Blk.alloc ?_ _ | refine Blk.drew ?_ | refine Blk.ext ?_ _ | exact Blk.set (by assumption) _ _ | (refine Blk.other ?_ ?_ _; rotate_left; (simp <;> omega)))), by rw [e0]; exact (by repeat (first | assumption | (refine Blk.at_ _ _ ?_; simp; done) | refine Blk.alloc ?_ _ | refine Blk.drew ?_ | refine Blk.ext ?_ _ | exact Blk.set (by assumption) _ _ | (refine Blk.other ?_ ?_ _; rotate_left; (simp <;> omega))))⟩
              case round =>
                obtain ⟨k, hk, rfl, hb', hz, ht⟩ := hrel
                have lz := hz.lt
                have lt := ht.lt
                have HZ := Lib.hid hz
                have HT := Lib.hid ht
                have ft := ht.frozen
                clear hz ht
                by_cases hkk : k < 256
                · have ct : wr.cell? ⟨w6.heap.size, k, none⟩ = some (.int .u8 (done (spreadF lo hi) k k)) := by rw [HT.out.cell, tab_get _ hkk]
                  have ev : ∀ v, v = spreadF lo hi k → Blk (wr.setCell ⟨w6.heap.size, k, none⟩ (.int .u8 v)) w6.heap.size (tab (done (spreadF lo hi) (k + 1))) 38 := by
                    rintro v rfl
                    have := HT.out.set k (.int .u8 (spreadF lo hi k))
                    rwa [done_set] at this
                  have EV := Lib.hid ev
                  clear ev
                  generalize done (spreadF lo hi) k k = old at *
                  by_cases hab : lo = hi
                  · have E := Lib.hid (spreadF_eq (a := (lo : Int)) (b := hi) (by omega) k)
                    go_wp2
                    go_roundw
                    case rel => exact ⟨k + 1, by omega, by go_num, (by repeat (first | assumption | exact gr_refl _ | refine gr_alloc ?_ _ | refine gr_drew ?_ | refine gr_drewN ?_ _ | refine gr_ext ?_ _ | (refine gr_set ?_ ?_ _; rotate_left; (simp <;> omega)))), by have := HZ.out; exact (by repeat (first | assumption | (refine Blk.at_ _ _ ?_; simp; done) | refine Blk.alloc ?_ _ | refine Blk.drew ?_ | refine Blk.ext ?_ _ | exact Blk.set (by assumption) _ _ | (refine Blk.other ?_ ?_ _; rotate_left; (simp <;> omega)))), EV.out _ (by rw [E.out] <;> omega)⟩
                    case measure => simp [intOf]; omega
                  · by_cases hkl : k ≤ lo
                    · have E := Lib.hid (spreadF_lo (a := (lo : Int)) (b := hi) (by omega) (k := k) (by omega))
                      go_wp2
                      go_roundw
                      case rel => exact ⟨k + 1, by omega, by go_num, (by repeat (first | assumption | exact gr_refl _ | refine gr_alloc ?_ _ | refine gr_drew ?_ | refine gr_drewN ?_ _ | refine gr_ext ?_ _ | (refine gr_set ?_ ?_ _; rotate_left; (simp <;> omega)))), by have := HZ.out; exact (by repeat (first | assumption | (refine Blk.at_ _ _ ?_; simp; done) | refine Blk.alloc ?_ _ | refine Blk.drew ?_ | refine Blk.ext ?_ _ | exact Blk.set (by assumption) _ _ | (refine Blk.other ?_ ?_ _; rotate_left; (simp <;> omega)))), EV.out _ (by rw [E.out] <;> omega)⟩
                      case measure => simp [intOf]; omega
                    · by_cases hkh : hi ≤ k
                      · have E := Lib.hid (spreadF_hi (a := (lo : Int)) (b := hi) (by omega) (k := k) (by omega))
                        go_wp2
                        go_roundw
                        case rel => exact ⟨k + 1, by omega, by go_num, (by repeat (first | assumption | exact gr_refl _ | refine gr_alloc ?_ _ | refine gr_drew ?_ | refine gr_drewN ?_ _ | refine gr_ext ?_ _ | (refine gr_set ?_ ?_ _; rotate_left; (simp <;> omega)))), by have := HZ.out; exact (by repeat (first | assumption | (refine Blk.at_ _ _ ?_; simp; done) | refine Blk.alloc ?_ _ | refine Blk.drew ?_ | refine Blk.ext ?_ _ | exact Blk.set (by assumption) _ _ | (refine Blk.other ?_ ?_ _; rotate_left; (simp <;> omega)))), EV.out _ (by rw [E.out] <;> omega)⟩
                        case measure => simp [intOf]; omega
                      · have E := Lib.hid (spreadF_mid (a := (lo : Int)) (b := hi) (k := k) (by omega) (by omega))
                        have bd := spreadF_bd (a := (lo : Int)) (b := hi) (n := k) (by omega) (by omega) hkk
                        have BD := Lib.hid bd
                        clear bd
                        go_wp2
                        go_roundw
                        case rel => exact ⟨k + 1, by omega, by go_num, (by repeat (first | assumption | exact gr_refl _ | refine gr_alloc ?_ _ | refine gr_drew ?_ | refine gr_drewN ?_ _ | refine gr_ext ?_ _ | (refine gr_set ?_ ?_ _; rotate_left; (simp <;> omega)))), by have := HZ.out; exact (by repeat (first | assumption | (refine Blk.at_ _ _ ?_; simp; done) | refine Blk.alloc ?_ _ | refine Blk.drew ?_ | refine Blk.ext ?_ _ | exact Blk.set (by assumption) _ _ | (refine Blk.other ?_ ?_ _; rotate_left; (simp <;> omega)))), EV.out _ (by have bd := BD.out; rw [E.out] at bd ⊢ <;> omega)⟩
                        case measure => simp [intOf]; omega
                · obtain rfl : k = 256 := by omega
                  go_wp2_with (first | (refine wpList_load_row rfl 38 _ rfl w6.heap.size rfl 38 _ (0, 0) _ HT.out.heap Try.underlying38 rfl (by kernel_rfl) ?_) | (refine wpList_store_row rfl 38 _ _ rfl (w.heap.size + 1) _ rfl rfl 38 _ HZ.out.heap (by kernel_rfl) (by kernel_rfl) (by kernel_rfl) ?_))
                  have hz := HZ.out
                  refine bodyPost_ret (results_cell_blk rfl _ _ (w.heap.size + 1) 38 _ _ rfl (hz.setRow _) Try.underlying38 rfl (by kernel_rfl)) rfl ⟨?_, Grew.of (gr_setRow hb' (by omega) _)⟩
                  rw [done_all, ELO.out, EHI.out]
end Go.Proofs.Ytneegcnidoopmaa
