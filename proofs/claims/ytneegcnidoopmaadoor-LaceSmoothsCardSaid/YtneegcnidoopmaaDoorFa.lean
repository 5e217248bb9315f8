/- A family of blocks that a world keeps, grown from another world. No conditions. -/
import Derived.Test.YtneegcnidoopmaaDoorR
namespace Go.Proofs.YtneegcnidoopmaaDoor
open Go.RowKit

structure Fam (w : World) (l : List (Nat × Array Value × TypeId)) (w' : World) : Prop where
  bel : Below w.heap.size w w'
  blk : ∀ p ∈ l, Blk w' p.1 p.2.1 p.2.2
/-- The same, shut: what a region's condition names first. -/
def FamS (w : World) (l : List (Nat × Array Value × TypeId)) (w' : World) : Prop := Fam w l w'
section
variable {w : World} {l : List (Nat × Array Value × TypeId)} {w' : World}
theorem Fam.get (h : Fam w l w') {b : Nat} {c : Array Value} {T : TypeId} (hm : (b, c, T) ∈ l) : Blk w' b c T := h.blk _ hm
theorem Fam.alloc (h : Fam w l w') (o : Obj) : Fam w l (w'.alloc o) := ⟨gr_alloc h.bel o, fun p hp => (h.blk p hp).alloc o⟩
theorem Fam.drew (h : Fam w l w') : Fam w l w'.drew := ⟨gr_drew h.bel, fun p hp => (h.blk p hp).drew⟩
theorem Fam.below (h : Fam w l w') {w'' : World} (hb : Below w'.heap.size w' w'') : Fam w l w'' := ⟨gr_below h.bel hb, fun p hp => (h.blk p hp).below hb⟩
theorem Fam.ext (h : Fam w l w') (x : Ext w') : Fam w l x.val := h.below x.below
theorem Fam.lt (h : Fam w l w') {p : Nat × Array Value × TypeId} (hp : p ∈ l) : p.1 < w'.heap.size := (h.blk p hp).lt
theorem Fam.set (h : Fam w l w') {a : Addr} (h1 : w.heap.size ≤ a.block) (h2 : ∀ p ∈ l, p.1 ≠ a.block) (v : Value) : Fam w l (w'.setCell a v) := ⟨gr_set h.bel h1 v, fun p hp => (h.blk p hp).other (h2 p hp) v⟩
theorem Fam.grown (h : Fam w l w') {w'' : World} {row : Option Nat} (hg : w'.grownBy w'' row) (h1 : ∀ k, row = some k → w.heap.size ≤ k) (h2 : ∀ p ∈ l, some p.1 ≠ row) : Fam w l w'' := ⟨gr_grown h.bel hg h1, fun p hp => (h.blk p hp).grown hg (h2 p hp)⟩
theorem Fam.cons (h : Fam w l w') {b : Nat} {c : Array Value} {T : TypeId} (hb : Blk w' b c T) : Fam w ((b, c, T) :: l) w' := ⟨h.bel, fun p hp => by
  rcases List.mem_cons.1 hp with rfl | hp
  · exact hb
  · exact h.blk p hp⟩
theorem Fam.tail {p : Nat × Array Value × TypeId} (h : Fam w (p :: l) w') : Fam w l w' := ⟨h.bel, fun q hq => h.blk q (List.mem_cons_of_mem _ hq)⟩
theorem Fam.head {b : Nat} {c : Array Value} {T : TypeId} (h : Fam w ((b, c, T) :: l) w') : Blk w' b c T := h.blk _ (List.mem_cons_self ..)
theorem Fam.realloc {o : Obj} (h : Fam w l (w'.alloc o)) (h0 : w.heap.size ≤ w'.heap.size) (h1 : ∀ p ∈ l, p.1 < w'.heap.size) (o' : Obj) : Fam w l (w'.alloc o') :=
  ⟨⟨h.bel.os, h.bel.tape, h.bel.output, by simp; omega, fun k hk => by rw [Below.heap_alloc _ _ _ (by omega), ← h.bel.block k hk, Below.heap_alloc _ _ _ (by omega)]⟩,
    fun p hp => ⟨by rw [Below.heap_alloc _ _ _ (h1 p hp), ← (h.blk p hp).heap, Below.heap_alloc _ _ _ (h1 p hp)]⟩⟩
theorem Fam.back {q : Prop} (h : FamS w l w' ∧ q) : Fam w l w' := h.1
end
/-- A whole array loaded, in a region that only reads: one value in every world of the class. -/
theorem wpQuiet_row {P : Program} {ops : Array Oper} {C : World → Prop} {Q : Act → Prop} {a : Act} {o : Oper} {rest : List Oper} (hw : Region.wanted o (yielded ops a.tmps) = true) (ty : TypeId) (x : Operand) (ho : o.op = .load ty x)
    (g : Nat) (hx : a.eval x = .pointer (some ⟨g, 0, none⟩)) (t : TypeId) (cs : Array Value) (fr : Nat × Nat) (d : TypeDesc) (hg : ∀ w, C w → w.heap[g]? = some (.cells cs t fr))
    (hu : P.underlying ty = some d) (hd : (match d with | .struct _ | .array _ _ => true | _ => false) = true) (hi : (P.info? ty).map (·.size) = some cs.size)
    (h : wpQuiet P ops C Q rest (a.put o.dst (.agg cs))) : wpQuiet P ops C Q (o :: rest) a := by
  unfold wpQuiet
  rw [if_pos hw]
  refine ⟨_, fun w hC => ?_, h⟩
  unfold Oper.quietAt execOp
  simp only [ho, hx, Instr.loadAt, Instr.sureAddr, Sem.run_bind, Sem.run_pure, Result.andThen_ok, run_loadVar_row w g t ty cs fr d (hg w hC) hu hd hi]
  exact ⟨rfl, rfl⟩
end Go.Proofs.YtneegcnidoopmaaDoor
