/- Contracts of Apply and Spread of a picture that may not be; '==' on tables. No conditions. -/
import Derived.Test.YtneegcnidoopmaaQ
import Derived.Test.YtneegcnidoopmaaLr
namespace Go.Proofs.Ytneegcnidoopmaa
open Go.RowKit

theorem wpList_build_none {P : Program} {ops : Array Oper} {rest : List Oper} {o : Oper} {a : Act} {w : World} {Q : Exit → Act → World → Prop} (hw : Region.wanted o (yielded ops a.tmps) = true) (t : TypeId) (ho : o.op = .build t #[])
    (cells : Array Value) (hb : P.built t [] = some cells) (h : wpList P ops Q rest (a.put o.dst (.agg cells)) w) : wpList P ops Q (o :: rest) a w := by
  refine BigFrame.wpList_want hw fun K hK => ?_
  unfold Oper.wp execOp
  simp only [ho, Array.map_empty, Sem.run_bind, run_build w t #[] cells hb, Result.andThen_ok]
  exact hK _ _ h

set_option maxRecDepth 100000 in
set_option maxHeartbeats 1000000 in
theorem apply_bad (f : Nat → Int) (W H : Int) (A : Option Addr) (n cap : Nat) (w : World) (hp : picB W H n = false) :
    Calls Try.prog 22 #[.agg (tab f), .agg #[.int .i64 W, .int .i64 H, .slice A n cap]] w fun e w' => e = .returned (.tuple #[.agg #[.int .i64 0, .int .i64 0, .slice none 0 0], .int .i64 1]) ∧ Grew w w' := by
  have P := Lib.hid hp
  clear hp
  go_enter Try.func22, Try.ntmps22
  go_wp2_with (go_at_call 61; refine (pic_right_any _ _ _ _ _ _).mono ?_; rintro e w' ⟨rfl, x0, rfl⟩; rw [P.out])
  exact bodyPost_ret (v := .tuple #[.agg #[.int .i64 0, .int .i64 0, .slice none 0 0], .int .i64 1]) (by simp [results, Try.results22, go_sem]) rfl ⟨rfl, Grew.of (by repeat (first | assumption | exact gr_refl _ | refine gr_alloc ?_ _ | refine gr_drew ?_ | refine gr_drewN ?_ _ | refine gr_ext ?_ _ | (refine gr_set ?_ ?_ _; rotate_left; (simp <;> omega))))⟩

set_option maxRecDepth 100000 in
set_option maxHeartbeats 1000000 in
theorem spread_bad (W H : Int) (A : Option Addr) (n cap : Nat) (w : World) (hp : picB W H n = false) :
    Calls Try.prog 28 #[.agg #[.int .i64 W, .int .i64 H, .slice A n cap]] w fun e w' => e = .returned (.tuple #[.agg (tab (fun _ => 0)), .int .i64 1]) ∧ Grew w w' := by
  have z : Try.zeroCells39 = tab (fun _ => 0) := by kernel_rfl
  have Z := Lib.hid z
  have P := Lib.hid hp
  clear hp z
  go_enter Try.func28, Try.ntmps28
  have hb : Try.prog.built 39 [] = some (tab fun _ => 0) := by kernel_rfl
  go_wp2_with (first | (go_at_call 61; refine (pic_right_any _ _ _ _ _ _).mono ?_; rintro e w' ⟨rfl, x0, rfl⟩; have hz : Blk x0.val (w.heap.size + 1) Try.zeroCells39 39 := (by repeat (first | assumption | (refine Blk.at_ _ _ ?_; simp; done) | refine Blk.alloc ?_ _ | refine Blk.drew ?_ | refine Blk.ext ?_ _ | exact Blk.set (by assumption) _ _ | (refine Blk.other ?_ ?_ _; rotate_left; (simp <;> omega)))); have HZ := Lib.hid hz; rw [P.out]) | (refine wpList_build_none (by rfl) 39 rfl _ hb ?_) | (refine wpList_store_row rfl 39 _ _ rfl (w.heap.size + 1) _ rfl rfl 39 _ HZ.out.heap (by kernel_rfl) (by kernel_rfl) (by kernel_rfl) ?_))
  have hz := HZ.out
  refine bodyPost_ret (results_cell_tmp_blk rfl _ _ (w.heap.size + 1) 39 _ _ rfl (hz.setRow _) Try.underlying39 rfl (by kernel_rfl)) rfl ⟨?_, Grew.of (gr_setRow ((by repeat (first | assumption | exact gr_refl _ | refine gr_alloc ?_ _ | refine gr_drew ?_ | refine gr_drewN ?_ _ | refine gr_ext ?_ _ | (refine gr_set ?_ ?_ _; rotate_left; (simp <;> omega))))) (by omega) _)⟩
  rfl

theorem run_equalIn_tab {P : Program} (w : World) (d : Nat) (t e : TypeId) (f : Nat → Int) (ht : P.underlying t = some (.array 256 e)) (he : P.underlying e = some (.int .u8)) (hi : (P.info? e).map (·.size) = some 1) :
    (Op.equalIn (d + 1 + 1) t (.agg (tab f)) (.agg (tab f))).run P w = .ok true w := by
  obtain ⟨i, hi1, hi2⟩ := Option.map_eq_some_iff.1 hi
  have hs : P.cellsOf e = 1 := by unfold Program.cellsOf; rw [hi1]; exact hi2
  rw [run_equalIn_array w (d + 1) _ _ ht hi1, hs]
  have hp : ∀ (o : Nat) (v : Value), (tab f)[o]? = some v → (part e (tab f) o).run P w = .ok v w := by
    intro o v h
    simp [part, isAgg, run_underlying he, h]
  have all : ∀ is : List Nat, (∀ j ∈ is, j < 256) → (Op.eqItems (d + 1) e 1 (tab f) (tab f) is).run P w = .ok true w := by
    intro is
    induction is with
    | nil => intro _; simp [Op.eqItems]
    | cons j is ih =>
      intro h
      have hj := h j (List.mem_cons_self ..)
      have e1 := hp j _ (tab_get f hj)
      simp [Op.eqItems, e1, run_equalIn_int, he, ih (fun k hk => h k (List.mem_cons_of_mem _ hk))]
  exact all _ (fun j hj => by simpa using hj)
end Go.Proofs.Ytneegcnidoopmaa
