/- Contracts of grade.Chain and its closure: some steps, one behind the other. Conditions: the function values lie behind the slice and do their steps. -/
import Derived.Test.YtneegcnidoopmaaSp
namespace Go.Proofs.Ytneegcnidoopmaa
open Go.RowKit

/-- n function values lie behind A. -/
def Cells1 (w : World) (A : Option Addr) (n : Nat) (F : Nat → Value) : Prop := 0 < n → ∃ b off, A = some ⟨b, off, none⟩ ∧ ∀ i, i < n → w.cell? ⟨b, off + i, none⟩ = some (F i)
theorem Cells1.below {w w1 : World} {A : Option Addr} {n : Nat} {F : Nat → Value} (h : Cells1 w A n F) (hb : Below w.heap.size w w1) : Cells1 w1 A n F := by
  intro hn
  obtain ⟨b, off, e, hc⟩ := h hn
  exact ⟨b, off, e, fun i hi => cell_later hb (hc i hi)⟩
def oneC (F : Nat → Value) (i : Nat) : List Value := [F i]
theorem Own.ones {w : World} {base T : Nat} {v : Value} {n : Nat} {F : Nat → Value} (h : Own w base T 1 v ((List.range n).map (oneC F))) : ∃ A cap, v = .slice A n cap ∧ n ≤ cap ∧ Cells1 w A n F := by
  obtain ⟨A, cap, rfl, hc, _, hx⟩ := h.cells
  refine ⟨A, cap, by simp, by simpa using hc, fun hn => ?_⟩
  obtain ⟨b, rfl, _, _, _, hcell⟩ := hx (by simpa using hn)
  refine ⟨b, 0, rfl, fun i hi => ?_⟩
  have c0 := hcell i 0 (by simpa using hi) (by omega)
  simp [hi, oneC] at c0
  simpa using c0
theorem Cells1.flat {w : World} {A : Option Addr} {n : Nat} {F : Nat → Value} (h : Cells1 w A n F) : ∀ ad, A = some ad → ∀ j u, ((List.range n).map (oneC F)).flatten[j]? = some u → w.cell? (ad.add j) = some u := by
  intro ad hA j u hj
  rcases Nat.eq_zero_or_pos n with h0 | h0
  · subst h0; simp at hj
  · obtain ⟨b, off, e, hc⟩ := h h0
    rw [hA] at e
    injection e with e
    subst e
    refine flat_cells (sz := 1) (by omega) (fun c hc => ?_) (fun i j hi hj => ?_) j u hj
    · obtain ⟨i, _, rfl⟩ := List.mem_map.1 hc; rfl
    · have hi' : i < n := by simpa using hi
      obtain rfl : j = 0 := by omega
      simpa [hi', oneC] using hc i hi'

theorem run_equalIn_func_nil {P : Program} (w : World) (n : Nat) (t : TypeId) {ps rs : Array TypeId} {vd : Bool} (f : Fn) (x c : Array Value) (h : P.underlying t = some (.func ps rs vd)) : (Op.equalIn (n + 1) t (.func f x c) .nilFunc).run P w = .ok false w := by
  simp [Op.equalIn, run_underlying h]
theorem run_equalIn_nil_nil {P : Program} (w : World) (n : Nat) (t : TypeId) {ps rs : Array TypeId} {vd : Bool} (h : P.underlying t = some (.func ps rs vd)) : (Op.equalIn (n + 1) t .nilFunc .nilFunc).run P w = .ok true w := by
  simp [Op.equalIn, run_underlying h]
theorem run_eql_func_nil {P : Program} (w : World) (t : TypeId) {ps rs : Array TypeId} {vd : Bool} (f : Fn) (x c : Array Value) (h : P.underlying t = some (.func ps rs vd)) : (binOp .eql t (.func f x c) .nilFunc).run P w = .ok (.bool false) w := by
  simp only [binOp]
  simp [Op.equal, Op.maxDepth, run_equalIn_func_nil w 9999 t f x c h]
theorem run_neq_func_nil {P : Program} (w : World) (t : TypeId) {ps rs : Array TypeId} {vd : Bool} (f : Fn) (x c : Array Value) (h : P.underlying t = some (.func ps rs vd)) : (binOp .neq t (.func f x c) .nilFunc).run P w = .ok (.bool true) w := by
  simp only [binOp]
  simp [Op.equal, Op.maxDepth, run_equalIn_func_nil w 9999 t f x c h]
theorem run_eql_nil_nil {P : Program} (w : World) (t : TypeId) {ps rs : Array TypeId} {vd : Bool} (h : P.underlying t = some (.func ps rs vd)) : (binOp .eql t .nilFunc .nilFunc).run P w = .ok (.bool true) w := by
  simp only [binOp]
  simp [Op.equal, Op.maxDepth, run_equalIn_nil_nil w 9999 t h]
theorem run_neq_nil_nil {P : Program} (w : World) (t : TypeId) {ps rs : Array TypeId} {vd : Bool} (h : P.underlying t = some (.func ps rs vd)) : (binOp .neq t .nilFunc .nilFunc).run P w = .ok (.bool false) w := by
  simp only [binOp]
  simp [Op.equal, Op.maxDepth, run_equalIn_nil_nil w 9999 t h]

set_option maxRecDepth 100000 in
set_option maxHeartbeats 2000000 in
theorem chain1_any (L : Nat → Stp) (F : Nat → Value) (h : Tri) (A : Option Addr) (n cap : Nat) (p : Nat) (w : World) (hn : n ≤ 1000000) (hp : w.cell? ⟨p, 0, none⟩ = some (.slice A n cap)) (hcap : n ≤ cap) (hc : Cells1 w A n F) (hs : ∀ i, i < n → StepAt w (F i) (L i).on) :
    Calls Try.prog 75 #[.agg #[.int .i64 h.r, .int .i64 h.g, .int .i64 h.b], .pointer (some ⟨p, 0, none⟩)] w fun e w' => e = .returned (chainF L h n).v ∧ Grew w w' := by
  have lp := World.block_lt_of_cell? _ _ hp
  simp only at lp
  have HC := Lib.hid hc
  have HS := Lib.hid hs
  clear hc hs
  have hq1 : ∀ wz, (binOp .neq 69 .nilFunc .nilFunc).run Try.prog wz = .ok (.bool false) wz := fun wz => run_neq_nil_nil wz _ Try.underlying69
  have hq2 : ∀ wz f x c, (binOp .neq 69 (.func f x c) .nilFunc).run Try.prog wz = .ok (.bool true) wz := fun wz f x c => run_neq_func_nil wz _ f x c Try.underlying69
  go_enter Try.func75, Try.ntmps75
  go_wp2
  go_loopw [8] (fun i wr => ∃ k : Nat, k ≤ n ∧ i = .int .i64 k ∧ Below w.heap.size w wr ∧ Blk wr w.heap.size #[.int .i64 (chainF L h k).r, .int .i64 (chainF L h k).g, .int .i64 (chainF L h k).b] 151 ∧ Blk wr (w.heap.size + 1) #[.int .i64 0, .int .i64 0, .int .i64 0] 151) (fun i _ => n - (intOf i).toNat)
  case atStart => exact ⟨0, by omega, rfl, (by repeat (first | assumption | exact gr_refl _ | refine gr_alloc ?_ _ | refine gr_drew ?_ | refine gr_drewN ?_ _ | refine gr_ext ?_ _ | (refine gr_set ?_ ?_ _; rotate_left; (simp <;> omega)))), (by repeat (first | assumption | (refine Blk.at_ _ _ ?_; simp; done) | refine Blk.alloc ?_ _ | refine Blk.drew ?_ | refine Blk.ext ?_ _ | exact Blk.set (by assumption) _ _ | (refine Blk.other ?_ ?_ _; rotate_left; (simp <;> omega)))), (by repeat (first | assumption | (refine Blk.at_ _ _ ?_; simp; done) | refine Blk.alloc ?_ _ | refine Blk.drew ?_ | refine Blk.ext ?_ _ | exact Blk.set (by assumption) _ _ | (refine Blk.other ?_ ?_ _; rotate_left; (simp <;> omega))))⟩
  case round =>
    obtain ⟨k, hk, rfl, hb, h1, h2⟩ := hrel
    have l1 := h1.lt
    have l2 := h2.lt
    have c1 := h1.cell
    have f1 := h1.frozen
    have c2 := h2.cell
    have f2 := h2.frozen
    have H1 := Lib.hid h1
    have H2 := Lib.hid h2
    clear h1 h2
    by_cases hlt : k < n
    · obtain ⟨b, off, rfl, hcell⟩ := HC.out (by omega)
      have q0 := cell_later hb (hcell k hlt)
      have lb : b < wr.heap.size := World.block_lt_of_cell? _ _ q0
      have e0 : chainF L h (k + 1) = (L k).on (chainF L h k) := rfl
      have E0 := Lib.hid e0
      clear hcell e0
      rcases HS.out k hlt with ⟨hv, hid⟩ | ⟨G, caps, hv, hent, hcall⟩
      · rw [hv] at q0
        have E1 := Lib.hid (E0.out.trans (hid _))
        clear hv hid
        go_wp2
        go_roundw
        case rel => exact ⟨k + 1, by omega, by go_num, (by repeat (first | assumption | exact gr_refl _ | refine gr_alloc ?_ _ | refine gr_drew ?_ | refine gr_drewN ?_ _ | refine gr_ext ?_ _ | (refine gr_set ?_ ?_ _; rotate_left; (simp <;> omega)))), by rw [E1.out]; have := H1.out; exact (by repeat (first | assumption | (refine Blk.at_ _ _ ?_; simp; done) | refine Blk.alloc ?_ _ | refine Blk.drew ?_ | refine Blk.ext ?_ _ | exact Blk.set (by assumption) _ _ | (refine Blk.other ?_ ?_ _; rotate_left; (simp <;> omega)))), by have := H2.out; exact (by repeat (first | assumption | (refine Blk.at_ _ _ ?_; simp; done) | refine Blk.alloc ?_ _ | refine Blk.drew ?_ | refine Blk.ext ?_ _ | exact Blk.set (by assumption) _ _ | (refine Blk.other ?_ ?_ _; rotate_left; (simp <;> omega))))⟩
        case measure => simp [intOf]; omega
      · rw [hv] at q0
        have HCALL := Lib.hid hcall
        generalize chainF L h k = t at *
        clear hv hcall
        go_wp2_with fail
        refine (HCALL.out wr t hb).mono ?_
        rintro e w' ⟨rfl, x1, rfl⟩
        have g1 : Below w.heap.size w x1.val := (by repeat (first | assumption | exact gr_refl _ | refine gr_alloc ?_ _ | refine gr_drew ?_ | refine gr_drewN ?_ _ | refine gr_ext ?_ _ | (refine gr_set ?_ ?_ _; rotate_left; (simp <;> omega))))
        have H3 := Lib.hid (H1.out.ext x1)
        have H4 := Lib.hid (H2.out.ext x1)
        have c3 := (H1.out.ext x1).cell
        have f3 := (H1.out.ext x1).frozen
        have E1 := Lib.hid E0.out
        unfold Tri.v
        go_wp2
        go_roundw
        case rel => exact ⟨k + 1, by omega, by go_num, (by repeat (first | assumption | exact gr_refl _ | refine gr_alloc ?_ _ | refine gr_drew ?_ | refine gr_drewN ?_ _ | refine gr_ext ?_ _ | (refine gr_set ?_ ?_ _; rotate_left; (simp <;> omega)))), by rw [E1.out]; exact ((H3.out.set 0 _).set 1 _).set 2 _, by have := H4.out; exact (by repeat (first | assumption | (refine Blk.at_ _ _ ?_; simp; done) | refine Blk.alloc ?_ _ | refine Blk.drew ?_ | refine Blk.ext ?_ _ | exact Blk.set (by assumption) _ _ | (refine Blk.other ?_ ?_ _; rotate_left; (simp <;> omega))))⟩
        case measure => simp [intOf]; omega
    · obtain rfl : k = n := by omega
      go_wp2
      refine bodyPost_ret (v := (chainF L h k).v) (by simp [results, Try.results75, go_sem, Tri.v, c1, c2]) rfl ⟨rfl, Grew.of (by repeat (first | assumption | exact gr_refl _ | refine gr_alloc ?_ _ | refine gr_drew ?_ | refine gr_drewN ?_ _ | refine gr_ext ?_ _ | (refine gr_set ?_ ?_ _; rotate_left; (simp <;> omega))))⟩

theorem FuncAt.of {w : World} {G : FuncId} {fn : Func} {c : Code} {caps : Array Value} {f : Tri → Tri} (hf : Try.prog.funcs[G]? = some fn) (hname : (fn.name == "runtime.NumGoroutine") = false) (hb : fn.body = some c)
    (h : ∀ (w' : World) (h : Tri), Below w.heap.size w w' → Calls Try.prog G (#[h.v] ++ caps) w' fun e w'' => e = .returned (f h).v ∧ Grew w' w'') : FuncAt w (.func (.func G) #[] caps) f := ⟨G, caps, rfl, enter_of hf hname hb, h⟩
/-- All steps in one come back. -/
def RetChain (w : World) (f : Tri → Tri) (e : Ending) (w' : World) : Prop := ∃ v, e = .returned v ∧ FuncAt w' v f ∧ Grew w w'
set_option maxHeartbeats 1000000 in
theorem chain_any (L : Nat → Stp) (F : Nat → Value) (A : Option Addr) (n cap : Nat) (w : World) (hn : n ≤ 1000000) (hnil : A = none → n = 0 ∧ cap = 0) (hc : Cells1 w A n F) (hs : ∀ i, i < n → StepAt w (F i) (L i).on) :
    Calls Try.prog 34 #[.slice A n cap] w (RetChain w fun h => chainF L h n) := by
  have HC := Lib.hid hc
  have HN := Lib.hid hnil
  have HS := Lib.hid hs
  clear hc hnil hs
  go_enter Try.func34, Try.ntmps34
  go_wp2_with (at_builtin; refine wpList_own_appendN (w0 := w) rfl _ _ 65 rfl w.heap.size 69 .nilFunc 1 8 Try.underlying65 (by kernel_rfl) rfl (by omega) _ [] rfl (Own.lit _ _ _ _ [] (by simp) (by simp) (by simp) _ (by simp) _ (by simp) _ (by simp)) A n cap ((List.range n).map (oneC F)) rfl (by simp) (by intro c hc; obtain ⟨i, _, rfl⟩ := List.mem_map.1 hc; rfl) HN.out (Cells1.flat (HC.out.below ((by repeat (first | assumption | exact gr_refl _ | refine gr_alloc ?_ _ | refine gr_drew ?_ | refine gr_drewN ?_ _ | refine gr_ext ?_ _ | (refine gr_set ?_ ?_ _; rotate_left; (simp <;> omega))))))) (by intro c hc; obtain ⟨i, hi, rfl⟩ := List.mem_map.1 hc; intro u hu; simp [oneC] at hu; subst hu; exact (HS.out i (List.mem_range.1 hi)).one) (by simp; omega) (by omega) ((by repeat (first | assumption | exact gr_refl _ | refine gr_alloc ?_ _ | refine gr_drew ?_ | refine gr_drewN ?_ _ | refine gr_ext ?_ _ | (refine gr_set ?_ ?_ _; rotate_left; (simp <;> omega))))) (Nat.le_refl _) (by simp; omega) ?_)
  intro v' w1 hown1 hb1 hg1
  have hg2 : ((w.alloc (.cells #[.slice A n cap] 65)).alloc (.cells #[] 69)).grownBy w1 (some (w.heap.size + 1)) := hg1
  have r0 : Blk w1 w.heap.size #[.slice A n cap] 65 := Blk.grown (by repeat (first | assumption | (refine Blk.at_ _ _ ?_; simp; done) | refine Blk.alloc ?_ _ | refine Blk.drew ?_ | refine Blk.ext ?_ _ | exact Blk.set (by assumption) _ _ | (refine Blk.other ?_ ?_ _; rotate_left; (simp <;> omega)))) hg2 (by simp)
  obtain ⟨A', cap', rfl, hcap', _, _⟩ := hown1.cells
  have cr := r0.cell
  have fr := r0.frozen
  have hne := hown1.ne_blk r0 (by decide)
  have hr := r0.lt
  have R0 := Lib.hid r0
  simp only [List.nil_append, List.length_map, List.length_range] at hown1 hne hcap'
  have HO := Lib.hid hown1
  have HB := Lib.hid hb1
  have HNE := Lib.hid hne
  clear hown1 hb1 hg1 hg2 r0 hne
  simp only [List.nil_append, List.length_map, List.length_range]
  go_wp2
  go_ret
  obtain ⟨A2, cap2, e2, h2, h3⟩ := (HO.out.other (a := ⟨w.heap.size, 0, none⟩) HNE.out (.slice A' n cap')).ones
  injection e2 with e3 e4 e5
  subst e3 e5
  have hb2 : Below w.heap.size w (w1.setCell ⟨w.heap.size, 0, none⟩ (.slice A' n cap')) := gr_set HB.out (by simp) _
  have cp : (w1.setCell ⟨w.heap.size, 0, none⟩ (.slice A' n cap')).cell? ⟨w.heap.size, 0, none⟩ = some (.slice A' n cap') := by rw [(R0.out.set _ _).cell]; simp
  refine ⟨_, rfl, FuncAt.of Try.func75 (by kernel_rfl) rfl (fun w' h hb => ?_), Grew.of hb2⟩
  exact (chain1_any L F h A' n cap' w.heap.size w' hn (cell_later hb cp) h2 (h3.below hb) (fun i hi => (HS.out i hi).below (gr_below hb2 hb))).mono fun e w'' ⟨he, hg⟩ => ⟨he, hg⟩
end Go.Proofs.Ytneegcnidoopmaa
