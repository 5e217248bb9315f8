/- Rows of numbers: append to an empty row of one's own; law02.To. Conditions: the numbers lie behind the slice; the sizes named. -/
import Derived.Test.YtneegcnidoopmaaDoorGr
import Derived.Test.YtneegcnidoopmaaDoorLb
import Derived.Test.YtneegcnidoopmaaDoorR
import Derived.ArgAppend
namespace Go.Proofs.YtneegcnidoopmaaDoor
open Go.RowKit

/-- What A points to is a row of that type. -/
def TypA (w : World) (A : Option Addr) (T : TypeId) : Prop := ∀ a, A = some a → ∃ c, w.heap[a.block]? = some (Obj.cells c T (0, 0))
theorem Own.typ {w : World} {base T sz : Nat} {A : Option Addr} {n cap : Nat} {els : List (List Value)} (h : Own w base T sz (.slice A n cap) els) : TypA w A T := by
  intro a ha
  rcases h.row.2 with ⟨e, _⟩ | ⟨g, cap', cur, e, _, hh, _⟩
  · injection e with e1; rw [ha] at e1; cases e1
  · injection e with e1
    rw [ha] at e1
    injection e1 with e1
    subst e1
    exact ⟨_, hh⟩
theorem TypA.below {w w1 : World} {A : Option Addr} {T : TypeId} (h : TypA w A T) (hb : Below w.heap.size w w1) : TypA w1 A T := fun a ha => by
  obtain ⟨c, e⟩ := h a ha
  exact ⟨c, (hb.block _ (Array.getElem?_eq_some_iff.1 e).1).trans e⟩
/-- A slice's row lies behind all that was there. -/
def NewV (base : Nat) (v : Value) : Prop := ∀ b, v.ownBlock = some b → base ≤ b
theorem Own.newV {w : World} {base T sz : Nat} {v : Value} {els : List (List Value)} (h : Own w base T sz v els) : NewV base v := by
  intro b hb
  rcases h.row.2 with ⟨rfl, _⟩ | ⟨g, cap', cur, rfl, hg, _⟩
  · cases hb
  · injection hb with hb
    subst hb
    exact hg
/-- v is a slice of n numbers, in a row of numbers. -/
def RowI (w : World) (v : Value) (T : TypeId) (n : Nat) (F : Nat → Int) : Prop := ∃ A cap, v = .slice A n cap ∧ CellsI w A n F ∧ (0 < n → TypA w A T)
theorem RowI.below {w w1 : World} {v : Value} {T : TypeId} {n : Nat} {F : Nat → Int} (h : RowI w v T n F) (hb : Below w.heap.size w w1) : RowI w1 v T n F := by
  obtain ⟨A, cap, e, hc, ht⟩ := h
  exact ⟨A, cap, e, hc.below hb, fun hn => (ht hn).below hb⟩
/-- .. of n lights or vectors. -/
def RowH (w : World) (v : Value) (T : TypeId) (n : Nat) (R G B : Nat → Int) : Prop := ∃ A cap, v = .slice A n cap ∧ CellsH w A n R G B ∧ (0 < n → TypA w A T)
theorem RowH.below {w w1 : World} {v : Value} {T : TypeId} {n : Nat} {R G B : Nat → Int} (h : RowH w v T n R G B) (hb : Below w.heap.size w w1) : RowH w1 v T n R G B := by
  obtain ⟨A, cap, e, hc, ht⟩ := h
  exact ⟨A, cap, e, hc.below hb, fun hn => (ht hn).below hb⟩
def RowHB (base : Nat) (w : World) (v : Value) (T : TypeId) (n : Nat) (R G B : Nat → Int) : Prop := RowH w v T n R G B ∧ NewV base v
theorem RowHB.below {base : Nat} {w w1 : World} {v : Value} {T : TypeId} {n : Nat} {R G B : Nat → Int} (h : RowHB base w v T n R G B) (hb : Below w.heap.size w w1) : RowHB base w1 v T n R G B := ⟨h.1.below hb, h.2⟩
def intC (F : Nat → Int) (i : Nat) : List Value := [.int .i64 (F i)]
theorem Own.ints {w : World} {base T : Nat} {v : Value} {n : Nat} {F : Nat → Int} (h : Own w base T 1 v ((List.range n).map (intC F))) : RowI w v T n F := by
  obtain ⟨A, cap, rfl, hc, _, hx⟩ := h.cells
  have ht := h.typ
  refine ⟨A, cap, by simp, fun hn => ?_, fun _ => ht⟩
  obtain ⟨b, rfl, _, _, _, hcell⟩ := hx (by simpa using hn)
  refine ⟨b, 0, rfl, fun i hi => ?_⟩
  have c0 := hcell i 0 (by simpa using hi) (by omega)
  simp [hi, intC] at c0
  simpa using c0
theorem Own.rowH {w : World} {base T : Nat} {v : Value} {n : Nat} {R G B : Nat → Int} (h : Own w base T 3 v ((List.range n).map (hueC R G B))) : RowH w v T n R G B := by
  obtain ⟨A, cap, rfl, hc, hcell⟩ := h.hues
  exact ⟨A, cap, rfl, hcell, fun _ => h.typ⟩

theorem flat_ints {F : Nat → Int} : ∀ {n : Nat}, ((List.range n).map (intC F)).flatten = (List.range n).map fun i => Value.int .i64 (F i)
  | 0 => rfl
  | n + 1 => by rw [List.range_succ, List.map_append, List.flatten_append, flat_ints, List.map_append]; simp [intC]
/-- 'append(T{}, xs...)' of numbers: a row of its own; all that was there is as it was. -/
theorem wpList_append_ints {P : Program} {w : World} {ops : Array Oper} {rest : List Oper} {o : Oper} {a : Act} {Q : Exit → Act → World → Prop} (hgd : o.guard = none) (s x : Operand) (t : TypeId)
    (ho : o.op = .call { callee := .builtin .append, args := #[s, x], argTypes := #[t, t] })
    (e : TypeId) (ht : P.underlying t = some (.slice e)) (hinfo : (P.info? e).map (fun i => (i.zero, i.size, i.bytes)) = some (some (.int .i64 0), 1, 8))
    (b0 : Nat) (hs : a.eval s = .slice (some ⟨b0, 0, none⟩) 0 0) (A : Option Addr) (m c : Nat) (F : Nat → Int) (hx : a.eval x = .slice A m c) (hc : CellsI w A m F) (hnil : A = none → m = 0 ∧ c = 0) (hbytes : m * 8 ≤ 140737488355328)
    (h : ∀ v' w', RowI w' v' e m F → Below w.heap.size w w' → wpList P ops Q rest (a.put o.dst v') w') : wpList P ops Q (o :: rest) a w := by
  obtain ⟨i0, hi, hz0, hz1, hz2⟩ := info_parts hinfo
  rcases Nat.eq_zero_or_pos m with h0 | h0
  · subst h0
    have hv : ∀ w', RowI w' (.slice (some ⟨b0, 0, none⟩) 0 0) e 0 F := fun w' => ⟨_, _, rfl, fun hn => by omega, fun hn => by omega⟩
    cases A with
    | none =>
      obtain ⟨_, rfl⟩ := hnil rfl
      refine wpList_plain hgd fun K hK => ?_
      have hrun : (Builtin.append_ #[t, t] o.type #[.slice (some ⟨b0, 0, none⟩) 0 0, .slice none 0 0]).run P w = .ok (.slice (some ⟨b0, 0, none⟩) 0 0) w := by
        simp [Builtin.append_, run_underlying ht, sizeOf, typeInfo, hi, Builtin.lenOf, run_firstCells_none, Addr.add_lit, storeCells]
      unfold Oper.wp
      simp [execOp, ho, resolve, invoke, builtin, hs, hx, hrun, Result.andThen]
      exact hK _ _ (h _ _ (hv w) (gr_refl w))
    | some ad =>
      refine wpList_plain hgd fun K hK => ?_
      have hrun := run_append_room_cells (P := P) w t o.type e i0 ht hi b0 0 0 0 ad 0 c [] (by simp) (fun j u hj => by simp at hj) (fun u hu => by cases hu) (by omega) (fun j hj => by simp at hj) (fun j hj => by simp at hj)
      have hsc : w.setCells b0 (0 + 0 * i0.size) [] = w := rfl
      rw [hsc] at hrun
      unfold Oper.wp
      simp [execOp, ho, resolve, invoke, builtin, hs, hx, hrun, Result.andThen]
      exact hK _ _ (h _ _ (hv w) (gr_refl w))
  · obtain ⟨b, off, rfl, hcell⟩ := hc h0
    refine wpList_append_grows w hgd s x t ho e i0 (.int .i64 0) 1 8 ht hi hz0 hz1 hz2 rfl (by omega) (some ⟨b0, 0, none⟩) 0 0 [] hs (fun e => by cases e) rfl (fun b hb j u hj => by simp at hj) ⟨b, off, none⟩ m c ((List.range m).map fun i => .int .i64 (F i)) hx (by simp) (fun j u hj => ?_) (fun u hu => ?_) (by omega) (by unfold maxLen; omega) (by omega) (fun v' w' r1 r2 => h v' w' ?_ ⟨r2.os, r2.tape, r2.output, r2.size, fun k hk => r2.block k hk (by simp)⟩)
    · have hj' : j < m := by have := (List.getElem?_eq_some_iff.1 hj).1; simpa using this
      have : u = .int .i64 (F j) := by simpa [hj'] using hj.symm
      subst this
      have ha : (⟨b, off, none⟩ : Addr).add j = ⟨b, off + j, none⟩ := by unfold Addr.add; split <;> simp_all
      rw [ha]
      exact hcell j hj'
    · obtain ⟨i, _, rfl⟩ := List.mem_map.1 hu
      rfl
    · rw [Nat.zero_add, List.nil_append, ← flat_ints] at r1
      have : Own w' w.heap.size e 1 v' ((List.range m).map (intC F)) := ⟨by simpa using r1, fun c hc => by obtain ⟨i, _, rfl⟩ := List.mem_map.1 hc; rfl⟩
      exact this.ints
theorem vto_any (a b c : Int) (w : World) : Calls Tryd.prog 23 #[.agg #[.int .i64 a, .int .i64 b, .int .i64 c]] w fun e w' => e = .returned (.agg #[.int .i64 a, .int .i64 b, .int .i64 c]) ∧ Grew w w' := by
  go_enter Tryd.func23, Tryd.ntmps23
  go_wp2
  exact bodyPost_ret (v := .agg #[.int .i64 a, .int .i64 b, .int .i64 c]) (by simp [results, Tryd.results23, go_sem]) rfl ⟨rfl, Grew.of (by repeat (first | assumption | exact gr_refl _ | refine gr_alloc ?_ _ | refine gr_drew ?_ | refine gr_drewN ?_ _ | refine gr_ext ?_ _ | (refine gr_set ?_ ?_ _; rotate_left; (simp <;> omega))))⟩
end Go.Proofs.YtneegcnidoopmaaDoor
