/- Contract of ref39.Sheet: all steps, done to a sheet. Conditions: the lights and the steps lie behind their slices. -/
import Derived.Test.YtneegcnidoopmaaDg
namespace Go.Proofs.Ytneegcnidoopmaa
open Go.RowKit

/-- m steps lie behind A, their curves behind C. -/
def CellsS (w : World) (A : Option Addr) (m : Nat) (C : Nat → Option Addr) (K : Nat → Nat) (L : Nat → Stp) : Prop :=
  (0 < m → ∃ b off, A = some ⟨b, off, none⟩ ∧ ∀ i, i < m → w.cell? ⟨b, off + i * 7, none⟩ = some (.int .i64 (L i).kind) ∧ w.cell? ⟨b, off + i * 7 + 1, none⟩ = some (.slice (C i) (L i).n (K i)) ∧ w.cell? ⟨b, off + i * 7 + 2, none⟩ = some (.int .i64 (L i).a) ∧ w.cell? ⟨b, off + i * 7 + 3, none⟩ = some (.int .i64 (L i).b) ∧
    w.cell? ⟨b, off + i * 7 + 4, none⟩ = some (.int .i64 (L i).t0) ∧ w.cell? ⟨b, off + i * 7 + 5, none⟩ = some (.int .i64 (L i).t1) ∧ w.cell? ⟨b, off + i * 7 + 6, none⟩ = some (.int .i64 (L i).t2)) ∧
  ∀ i, i < m → Cells2 w (C i) (L i).n (L i).X (L i).Y
theorem CellsS.below {w w1 : World} {A : Option Addr} {m : Nat} {C : Nat → Option Addr} {K : Nat → Nat} {L : Nat → Stp} (h : CellsS w A m C K L) (hb : Below w.heap.size w w1) : CellsS w1 A m C K L := by
  refine ⟨fun hm => ?_, fun i hi => (h.2 i hi).below hb⟩
  obtain ⟨b, off, e, hc⟩ := h.1 hm
  refine ⟨b, off, e, fun i hi => ?_⟩
  obtain ⟨h0, h1, h2, h3, h4, h5, h6⟩ := hc i hi
  exact ⟨cell_later hb h0, cell_later hb h1, cell_later hb h2, cell_later hb h3, cell_later hb h4, cell_later hb h5, cell_later hb h6⟩

theorem on_v (s : Stp) (h : Tri) : (Value.agg #[.int .i64 (stepF s.kind s.X s.Y s.n s.a s.b s.t0 h.r (lumaF h.r h.g h.b)), .int .i64 (stepF s.kind s.X s.Y s.n s.a s.b s.t1 h.g (lumaF h.r h.g h.b)), .int .i64 (stepF s.kind s.X s.Y s.n s.a s.b s.t2 h.b (lumaF h.r h.g h.b))]) = .agg #[.int .i64 (s.on h).r, .int .i64 (s.on h).g, .int .i64 (s.on h).b] := rfl
theorem rdo_step (s : Stp) (h : Tri) (A : Option Addr) (cap : Nat) (w : World) (hn : s.n ≤ 9223372036854775806) (hc : Cells2 w A s.n s.X s.Y) :
    Calls Try.prog 77 #[.agg #[.int .i64 s.kind, .slice A s.n cap, .int .i64 s.a, .int .i64 s.b, .int .i64 s.t0, .int .i64 s.t1, .int .i64 s.t2], .agg #[.int .i64 h.r, .int .i64 h.g, .int .i64 h.b]] w fun e w' =>
      e = .returned (.agg #[.int .i64 (s.on h).r, .int .i64 (s.on h).g, .int .i64 (s.on h).b]) ∧ Grew w w' :=
  rdo_any s.kind s.a s.b s.t0 s.t1 s.t2 h.r h.g h.b A s.n cap s.X s.Y w hn hc

set_option maxRecDepth 100000 in
set_option maxHeartbeats 4000000 in
theorem rsheet_any (L : Nat → Stp) (W H : Int) (A : Option Addr) (n cap : Nat) (R G B : Nat → Int) (Al : Option Addr) (m capl : Nat) (C : Nat → Option Addr) (KK : Nat → Nat) (w : World) (hn : n ≤ 1000000) (hm : m ≤ 1000000) (hk40 : ∀ i, i < m → (L i).n ≤ 1000000)
    (hc : CellsH w A n R G B) (hl : CellsS w Al m C KK L) :
    Calls Try.prog 38 #[.agg #[.int .i64 W, .int .i64 H, .slice A n cap], .slice Al m capl] w
      (RetSheet w 33 W H n (fun i => (chainF L (triOf R G B i) m).r) (fun i => (chainF L (triOf R G B i) m).g) (fun i => (chainF L (triOf R G B i) m).b)) := by
  have HC := Lib.hid hc
  have HL := Lib.hid hl
  have H40 := Lib.hid hk40
  clear hc hl hk40
  go_enter Try.func38, Try.ntmps38
  go_wp2
  go_loopw [6] (fun i wr => ∃ (k : Nat) (v : Value), k ≤ n ∧ i = .int .i64 k ∧ Below w.heap.size w wr ∧ Blk wr w.heap.size #[.int .i64 W, .int .i64 H, .slice A n cap] 63 ∧ Blk wr (w.heap.size + 1) #[.int .i64 0, .int .i64 0, .slice none 0 0] 63 ∧
      Blk wr (w.heap.size + 1 + 1) #[.int .i64 W, .int .i64 H, v] 63 ∧ Own wr w.heap.size 33 3 v ((List.range k).map (hueC (fun i => (chainF L (triOf R G B i) m).r) (fun i => (chainF L (triOf R G B i) m).g) (fun i => (chainF L (triOf R G B i) m).b)))) (fun i _ => n - (intOf i).toNat)
  case atStart => exact ⟨0, .slice none 0 0, by omega, rfl, (by repeat (first | assumption | exact gr_refl _ | refine gr_alloc ?_ _ | refine gr_drew ?_ | refine gr_drewN ?_ _ | refine gr_ext ?_ _ | (refine gr_set ?_ ?_ _; rotate_left; (simp <;> omega)))), (by repeat (first | assumption | (refine Blk.at_ _ _ ?_; simp; done) | refine Blk.alloc ?_ _ | refine Blk.drew ?_ | refine Blk.ext ?_ _ | exact Blk.set (by assumption) _ _ | (refine Blk.other ?_ ?_ _; rotate_left; (simp <;> omega)))), (by repeat (first | assumption | (refine Blk.at_ _ _ ?_; simp; done) | refine Blk.alloc ?_ _ | refine Blk.drew ?_ | refine Blk.ext ?_ _ | exact Blk.set (by assumption) _ _ | (refine Blk.other ?_ ?_ _; rotate_left; (simp <;> omega)))), (by repeat (first | assumption | (refine Blk.at_ _ _ ?_; simp; done) | refine Blk.alloc ?_ _ | refine Blk.drew ?_ | refine Blk.ext ?_ _ | exact Blk.set (by assumption) _ _ | (refine Blk.other ?_ ?_ _; rotate_left; (simp <;> omega)))), Own.nil _ _ _ _⟩
  case round =>
    obtain ⟨k, v, hk, rfl, hb, hpar, hres, hout, hown⟩ := hrel
    have l1 := hpar.lt
    have l2 := hres.lt
    have l3 := hout.lt
    have cpar := hpar.cell 2
    simp at cpar
    have HP := Lib.hid hpar
    have HR := Lib.hid hres
    have HO := Lib.hid hout
    have HW := Lib.hid hown
    have HBE := Lib.hid hb
    by_cases hlt : k < n
    · obtain ⟨b, off, rfl, hcell⟩ := HC.out (by omega)
      obtain ⟨q0, q1, q2⟩ := hcell k hlt
      have c0 := cell_later hb q0
      have c1 := cell_later hb q1
      have c2 := cell_later hb q2
      have lb : b < wr.heap.size := World.block_lt_of_cell? _ _ c0
      clear hcell q0 q1 q2 hpar hres hout hown hb
      obtain ⟨wo, rfl⟩ : ∃ wo : World, wo = wr := ⟨_, rfl⟩
      go_wp2
      go_loopw [8] (fun i wi => ∃ (j : Nat), j ≤ m ∧ i = .int .i64 j ∧ Below (wo.heap.size) wo wi ∧ Blk wi wo.heap.size #[.int .i64 (chainF L (triOf R G B k) j).r, .int .i64 (chainF L (triOf R G B k) j).g, .int .i64 (chainF L (triOf R G B k) j).b] 33) (fun i _ => m - (intOf i).toNat)
      case atStart => exact ⟨0, by omega, rfl, (by repeat (first | assumption | exact gr_refl _ | refine gr_alloc ?_ _ | refine gr_drew ?_ | refine gr_drewN ?_ _ | refine gr_ext ?_ _ | (refine gr_set ?_ ?_ _; rotate_left; (simp <;> omega)))), (by repeat (first | assumption | (refine Blk.at_ _ _ ?_; simp; done) | refine Blk.alloc ?_ _ | refine Blk.drew ?_ | refine Blk.ext ?_ _ | exact Blk.set (by assumption) _ _ | (refine Blk.other ?_ ?_ _; rotate_left; (simp <;> omega))))⟩
      case round =>
        obtain ⟨j, hj, rfl, hbi, hh⟩ := hrel
        have lh := hh.lt
        have ch := hh.cell
        have fh := hh.frozen
        have HH := Lib.hid hh
        have HBI := Lib.hid hbi
        clear hh hbi
        by_cases hjl : j < m
        · obtain ⟨bl, offl, rfl, hs⟩ := HL.out.1 (by omega)
          have hcv := HL.out.2 j hjl
          have hbw := gr_below HBE.out HBI.out
          obtain ⟨s0, s1, s2, s3, s4, s5, s6⟩ := hs j hjl
          have t0 := cell_later hbw s0
          have t1 := cell_later hbw s1
          have t2 := cell_later hbw s2
          have t3 := cell_later hbw s3
          have t4 := cell_later hbw s4
          have t5 := cell_later hbw s5
          have t6 := cell_later hbw s6
          have lbl := World.block_lt_of_cell? _ _ t0
          have HS := Lib.hid (hcv.below hbw)
          have h40 := H40.out j hjl
          have e0 : chainF L (triOf R G B k) (j + 1) = (L j).on (chainF L (triOf R G B k) j) := rfl
          have E0 := Lib.hid e0
          generalize chainF L (triOf R G B k) j = t at *
          clear hs hcv hbw s0 s1 s2 s3 s4 s5 s6 e0
          go_wp2
          refine wp_region_ext_tail 6 (by kernel_rfl) (by kernel_rfl) ?_
          simp only [List.take_succ_cons, List.take_zero, List.drop_succ_cons, List.drop_zero]
          repeat (go_big_quiet_step ((first | (go_at_call 77; exact Calls.grew _ (rdo_step (L j) _ _ _ _ (by omega) (HS.out.below ((by repeat (first | assumption | exact gr_refl _ | refine gr_alloc ?_ _ | refine gr_drew ?_ | refine gr_drewN ?_ _ | refine gr_ext ?_ _ | (refine gr_set ?_ ?_ _; rotate_left; (simp <;> omega)))))))))))
          refine wpQuiet_nil ?_
          rintro _ ⟨x1, rfl⟩
          have c3 := (HH.out.ext x1).cell
          have f3 := (HH.out.ext x1).frozen
          have H3 := Lib.hid (HH.out.ext x1)
          go_wp2
          go_roundw
          case rel => exact ⟨j + 1, by omega, by go_num, by have := HBI.out; exact (by repeat (first | assumption | exact gr_refl _ | refine gr_alloc ?_ _ | refine gr_drew ?_ | refine gr_drewN ?_ _ | refine gr_ext ?_ _ | (refine gr_set ?_ ?_ _; rotate_left; (simp <;> omega)))), by rw [E0.out]; exact ((H3.out.set 0 _).set 1 _).set 2 _⟩
          case measure => simp [intOf]; omega
        · obtain rfl : m = j := by omega
          obtain ⟨A', cap', rfl, hcap', _, _⟩ := HW.out.cells
          simp only [List.length_map, List.length_range] at HW hcap' HO
          have hout := HO.out.below HBI.out
          have hres := HR.out.below HBI.out
          have hpar := HP.out.below HBI.out
          have hown := HW.out.below HBI.out
          have hb := gr_below HBE.out HBI.out
          have co := hout.cell 2
          simp at co
          have l3 := hout.lt
          have n1 := hown.ne_blk hout (by decide)
          have n2 := hown.ne_blk hres (by decide)
          have n3 := hown.ne_blk hpar (by decide)
          have N1 := Lib.hid n1
          have N2 := Lib.hid n2
          have N3 := Lib.hid n3
          have HO2 := Lib.hid hout
          have HR2 := Lib.hid hres
          have HP2 := Lib.hid hpar
          have HW2 := Lib.hid hown
          have HB2 := Lib.hid hb
          have l3s : w.heap.size + 1 + 1 < wr.heap.size + 1 := by omega
          clear hout hres hpar hown hb n1 n2 n3
          go_wp2_with (at_builtin; refine own_append1 (w0 := w) rfl _ _ 61 rfl w.heap.size 33 (.agg #[.int .i64 0, .int .i64 0, .int .i64 0]) 3 24 Try.underlying61 (by kernel_rfl) rfl (by omega) _ _ rfl (HW2.out.alloc _) wr.heap.size (hueC (fun i => (chainF L (triOf R G B i) m).r) (fun i => (chainF L (triOf R G B i) m).g) (fun i => (chainF L (triOf R G B i) m).b) k) rfl (Blk.new _ _ _) rfl (by intro u hu; simp [hueC] at hu; rcases hu with rfl | rfl | rfl <;> rfl) (by simp; omega) (by omega) (gr_alloc HB2.out _) (Nat.le_refl _) (by simp; omega) ?_)
          intro v' w1 ho1 hb1 hg1
          rw [← map_range_succ] at ho1
          have br1 := (HR2.out.alloc _).grown hg1 (Ne.symm N2.out)
          have bp1 := (HP2.out.alloc _).grown hg1 (Ne.symm N3.out)
          have bo1 := (HO2.out.alloc _).grown hg1 (Ne.symm N1.out)
          have lb1 := bo1.lt
          obtain ⟨A2, cap2, rfl, _, _, _⟩ := ho1.cells
          have n5 := ho1.ne_blk bo1 (by decide)
          have co1 := bo1.cell
          have fo1 := bo1.frozen
          have BR1 := Lib.hid br1
          have BP1 := Lib.hid bp1
          have BO1 := Lib.hid bo1
          have HO1 := Lib.hid ho1
          have HB1 := Lib.hid hb1
          have N5 := Lib.hid n5
          simp only [List.length_map, List.length_range] at HO1 N5
          clear br1 bp1 bo1 ho1 hb1 hg1 n5
          go_wp2
          go_roundw
          case rel =>
            refine ⟨k + 1, .slice A2 (k + 1) cap2, by omega, by go_num, gr_set HB1.out (by simp; omega) _, BP1.out.other (by simp; omega) _, BR1.out.other (by simp) _, BO1.out.set _ _, HO1.out.other N5.out _⟩
          case measure => simp [intOf]; omega
    · obtain rfl : n = k := by omega
      clear HP HR HO HW HBE
      obtain ⟨A', cap', rfl, hcap', _, _⟩ := hown.cells
      simp only [List.length_map, List.length_range] at hown hcap' hout
      have n2 := hown.ne_blk hres (by decide)
      have co := hout.cell
      have cr := hres.cell
      have fr := hres.frozen
      have HW := Lib.hid hown
      have N2 := Lib.hid n2
      clear hown n2
      go_wp2
      refine bodyPost_ret (v := .agg #[.int .i64 W, .int .i64 H, .slice A' n cap']) (by simp [results, Try.results38, go_sem, cr, co]) rfl ⟨_, rfl, ?_, ?_⟩
      · exact ((HW.out.other N2.out _).other N2.out _).other N2.out _
      · exact gr_set (gr_set (gr_set hb (by simp) _) (by simp) _) (by simp) _
end Go.Proofs.Ytneegcnidoopmaa
