/- Laws of one step: a whole array loaded at a guarded operation; an element of an array held by value. No conditions but those stated. -/
import Derived.Test.YtneegcnidoopmaaR
import Derived.Test.YtneegcnidoopmaaQ
import Derived.Deep.RegionHeld3
namespace Go.Proofs.Ytneegcnidoopmaa
open Go.RowKit

theorem wpList_load_row_g {P : Program} {ops : Array Oper} {rest : List Oper} {o : Oper} {a : Act} {w : World} {Q : Exit → Act → World → Prop} (hw : Region.wanted o (yielded ops a.tmps) = true) (ty : TypeId) (x : Operand) (ho : o.op = .load ty x)
    (g : Nat) (hx : a.eval x = .pointer (some ⟨g, 0, none⟩)) (t : TypeId) (cs : Array Value) (fr : Nat × Nat) (d : TypeDesc) (hg : w.heap[g]? = some (.cells cs t fr))
    (hu : P.underlying ty = some d) (hd : (match d with | .struct _ | .array _ _ => true | _ => false) = true) (hi : (P.info? ty).map (·.size) = some cs.size)
    (h : wpList P ops Q rest (a.put o.dst (.agg cs)) w) : wpList P ops Q (o :: rest) a w :=
  BigFrame.wpList_want hw fun _ hK => wp_load_row ty x ho g hx t cs fr d hg hu hd hi (hK _ _ h)

theorem run_index_row {P : Program} {w : World} (ty elem n : Nat) (cs : Array Value) (k : IntKind) (i : Nat) (v : Value) (d : TypeDesc) (hu : P.underlying ty = some (.array n elem)) (hi : i < n)
    (he : P.underlying elem = some d) (hd : (match d with | .struct _ | .array _ _ => false | _ => true) = true) (hs : (P.info? elem).map (·.size) = some 1) (hv : cs[i]? = some v) :
    (Instr.index ty (.agg cs) (.int k i)).run P w = .ok v w := by
  have h1 : (0 : Int) ≤ (i : Int) ∧ (i : Int) < (n : Int) := by omega
  have hsz : (sizeOf elem).run P w = .ok 1 w := by
    obtain ⟨inf, hinf, e⟩ := Option.map_eq_some_iff.1 hs
    rw [run_sizeOf w hinf, Program.cellsOf, hinf]
    simp [e]
  have hag : (isAgg elem).run P w = .ok false w := by
    cases d <;> simp_all [isAgg, run_underlying he]
  simp [Instr.index, run_underlying hu, asIntOf, h1, hsz, part, hag, hv]
  intro hge; omega

theorem wpList_index_row {P : Program} {ops : Array Oper} {rest : List Oper} {o : Oper} {a : Act} {w : World} {Q : Exit → Act → World → Prop} (hw : Region.wanted o (yielded ops a.tmps) = true) (ty : TypeId) (x y : Operand) (ho : o.op = .index ty x y)
    (cs : Array Value) (hx : a.eval x = .agg cs) (k : IntKind) (i : Nat) (hy : a.eval y = .int k i) (elem n : Nat) (v : Value) (d : TypeDesc) (hu : P.underlying ty = some (.array n elem)) (hi : i < n)
    (he : P.underlying elem = some d) (hd : (match d with | .struct _ | .array _ _ => false | _ => true) = true) (hs : (P.info? elem).map (·.size) = some 1) (hv : cs[i]? = some v)
    (h : wpList P ops Q rest (a.put o.dst v) w) : wpList P ops Q (o :: rest) a w := by
  refine BigFrame.wpList_want hw fun K hK => ?_
  unfold Oper.wp execOp
  simp only [ho, hx, hy, Sem.run_bind, Sem.run_pure, Result.andThen_ok, run_index_row ty elem n cs k i v d hu hi he hd hs hv]
  exact hK _ _ h
def tabL (f : Nat → Int) : List Value := (List.range 256).map fun i => Value.int .u8 (f i)
theorem tab_list (f : Nat → Int) : tab f = (tabL f).toArray := rfl
theorem tabL_len (f : Nat → Int) : (tabL f).length = 256 := by simp [tabL]
theorem tabL_one (f : Nat → Int) : ∀ v ∈ tabL f, v.oneCell' = true := by
  intro v hv
  obtain ⟨i, _, rfl⟩ := List.mem_map.1 hv
  rfl
theorem Blk.range {w : World} {b : Nat} {f : Nat → Int} {T : TypeId} (h : Blk w b (tab f) T) : w.rangeAt b 0 (tabL f) := fun j v hv => by
  rw [Nat.zero_add, h.cell, tab_list]
  simpa using hv
/-- A table and a picture in their boxes, in a world that grew from another. -/
structure Kept (w : World) (b : Nat) (f : Nat → Int) (TT : TypeId) (p : Nat) (x0 x1 x2 : Value) (TP : TypeId) (w' : World) : Prop where
  bel : Below w.heap.size w w'
  tab : Blk w' b (tab f) TT
  pic : Blk w' p #[x0, x1, x2] TP
section
variable {w : World} {b : Nat} {f : Nat → Int} {TT : TypeId} {p : Nat} {x0 x1 x2 : Value} {TP : TypeId} {w' : World}
theorem Kept.alloc (h : Kept w b f TT p x0 x1 x2 TP w') (o : Obj) : Kept w b f TT p x0 x1 x2 TP (w'.alloc o) := ⟨gr_alloc h.bel o, h.tab.alloc o, h.pic.alloc o⟩
theorem Kept.drew (h : Kept w b f TT p x0 x1 x2 TP w') : Kept w b f TT p x0 x1 x2 TP w'.drew := ⟨gr_drew h.bel, h.tab.drew, h.pic.drew⟩
theorem Kept.below (h : Kept w b f TT p x0 x1 x2 TP w') {w'' : World} (hb : Below w'.heap.size w' w'') : Kept w b f TT p x0 x1 x2 TP w'' := ⟨gr_below h.bel hb, h.tab.below hb, h.pic.below hb⟩
theorem Kept.set (h : Kept w b f TT p x0 x1 x2 TP w') {a : Addr} (h1 : w.heap.size ≤ a.block) (h2 : b ≠ a.block) (h3 : p ≠ a.block) (v : Value) : Kept w b f TT p x0 x1 x2 TP (w'.setCell a v) := ⟨gr_set h.bel h1 v, h.tab.other h2 v, h.pic.other h3 v⟩
theorem Kept.realloc {o : Obj} (h : Kept w b f TT p x0 x1 x2 TP (w'.alloc o)) (h0 : w.heap.size ≤ w'.heap.size) (h1 : b < w'.heap.size) (h2 : p < w'.heap.size) (o' : Obj) : Kept w b f TT p x0 x1 x2 TP (w'.alloc o') :=
  ⟨⟨h.bel.os, h.bel.tape, h.bel.output, by simp; omega, fun k hk => by rw [Below.heap_alloc _ _ _ (by omega), ← h.bel.block k hk, Below.heap_alloc _ _ _ (by omega)]⟩, ⟨by rw [Below.heap_alloc _ _ _ h1, ← h.tab.heap, Below.heap_alloc _ _ _ h1]⟩, ⟨by rw [Below.heap_alloc _ _ _ h2, ← h.pic.heap, Below.heap_alloc _ _ _ h2]⟩⟩
/-- What a region's loads read of it. -/
def KeptS (w : World) (b : Nat) (f : Nat → Int) (TT : TypeId) (p : Nat) (x0 x1 x2 : Value) (TP : TypeId) (w' : World) : Prop := Kept w b f TT p x0 x1 x2 TP w'
theorem Kept.out (h : Kept w b f TT p x0 x1 x2 TP w') : KeptS w b f TT p x0 x1 x2 TP w' ∧ w'.rangeAt b 0 (tabL f) ∧ w'.cell? ⟨p, 0, none⟩ = some x0 ∧ w'.cell? ⟨p, 1, none⟩ = some x1 ∧ w'.cell? ⟨p, 2, none⟩ = some x2 :=
  ⟨h, h.tab.range, by rw [h.pic.cell]; rfl, by rw [h.pic.cell]; rfl, by rw [h.pic.cell]; rfl⟩
theorem Kept.back {q : Prop} (h : KeptS w b f TT p x0 x1 x2 TP w' ∧ q) : Kept w b f TT p x0 x1 x2 TP w' := h.1
end
theorem Own.cells3 {w : World} {base T : Nat} {A : Option Addr} {n cap : Nat} {R G B : Nat → Int} (h : Own w base T 3 (.slice A n cap) ((List.range n).map (dotC R G B))) : Cells3 w A n R G B := by
  obtain ⟨A', cap', e, _, hc⟩ := h.dots
  injection e with e1 e2 e3
  subst e1
  exact hc
theorem Cells3.congr {w : World} {A : Option Addr} {n : Nat} {R G B R' G' B' : Nat → Int} (h : Cells3 w A n R G B) (h0 : ∀ i, i < n → R' i = R i) (h1 : ∀ i, i < n → G' i = G i) (h2 : ∀ i, i < n → B' i = B i) : Cells3 w A n R' G' B' := fun hn => by
  obtain ⟨b, off, e, hc⟩ := h hn
  exact ⟨b, off, e, fun i hi => by rw [h0 i hi, h1 i hi, h2 i hi]; exact hc i hi⟩
theorem neg_neg {R : Nat → Int} {i : Nat} (h : 0 ≤ R i) (h' : R i ≤ 255) : R i = through (fun n => 255 - (n : Int)) (through (fun n => 255 - (n : Int)) R) i := by
  unfold through
  simp only []
  omega
theorem neg_bytes {R G B : Nat → Int} {n : Nat} (h : Bytes3 R G B n) : Bytes3 (through (fun n => 255 - (n : Int)) R) (through (fun n => 255 - (n : Int)) G) (through (fun n => 255 - (n : Int)) B) n := fun i hi => by
  obtain ⟨h1, h2, h3, h4, h5, h6⟩ := h i hi
  unfold through
  simp only []
  omega
end Go.Proofs.Ytneegcnidoopmaa
