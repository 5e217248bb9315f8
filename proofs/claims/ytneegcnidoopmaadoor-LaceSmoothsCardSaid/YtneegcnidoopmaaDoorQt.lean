/- A region that draws its order, whose first n operations only read or call functions that leave old memory alone, and whose other operations follow in a forced order: one walk in the text's order serves every order. No conditions but the closed Bool on the region. -/
import Derived.StillTail
import Derived.Deep.Quiet
import Derived.Below
import Derived.WalkKit
import Derived.WalkSpells
import Derived.WalkLawsBesides
import Derived.BigQuiet
import Derived.Deep.QuietTactic
import Derived.LoopN
import Derived.Lib.Hide
namespace Go.Proofs.YtneegcnidoopmaaDoor
open Go.RowKit

section
variable {P : Program} {ops : Array Oper} {md : Region.Mode} {C : World → Prop}

/-- However the first n operations are ordered, L holds of what is listed and of the frame behind them. -/
def headQ (P : Program) (md : Region.Mode) (ops : Array Oper) (C : World → Prop) (n : Nat) (L : Array Bool → Act → Prop) : Nat → Array Bool → Act → Prop
  | 0, done, a => L done a
  | f + 1, done, a => Region.ready md ops done ≠ [] ∧ ∀ i ∈ Region.ready md ops done, i < n ∧ qOp P ops C i (headQ P md ops C n L f (done.setIfInBounds i true)) a

theorem wpAny_of_headQ {n g : Nat} {L : Array Bool → Act → Prop} {Q' : Exit → Act → World → Prop} (hL : ∀ done a w, C w → L done a → wpAny P md ops Q' g done a w) (f : Nat) :
    ∀ (done : Array Bool) (a : Act) (w : World), C w → headQ P md ops C n L f done a → wpAny P md ops Q' (f + g) done a w := by
  induction f with
  | zero => intro done a w hw h; rw [Nat.zero_add]; exact hL _ _ _ hw h
  | succ f ih =>
    intro done a w hw h
    rw [Nat.add_right_comm]
    exact ⟨fun e => absurd e h.1, fun i hi => wpOp_of_qOp hw (fun a' w' hw' h' => ih _ a' w' hw' h') (h.2 i hi).2⟩

theorem headQ_first {n i : Nat} {o : Oper} {v : Value} {L : Array Bool → Act → Prop} (hi : ops[i]? = some o) (hsel : ∀ (j : Nat) (o : Oper) cs b, ops[j]? = some o → o.op ≠ .select cs b)
    (hs : Region.sinkB md ops n = true) (hc : Region.chainB md ops n = true) (hn : n < ops.size) (hin : i < n)
    (hdone : ∀ done a, L done a → ∀ j ∈ Region.ready md ops done, n ≤ j) (f : Nat) :
    ∀ (done : Array Bool) (a : Act), HeadInv md ops n done →
      (∀ j oj, ops[j]? = some oj → j ≠ i → done.getD j true = false → (∀ e ∈ oj.after, Region.binds md e = true → e.on ≠ i) → o.apart ops oj = true) →
      i ∈ Region.ready md ops done → YieldsIn P ops C o v a →
      headQ P md ops C n L f (done.setIfInBounds i true) (a.put o.dst v) → headQ P md ops C n L (f + 1) done a := by
  induction f with
  | zero =>
    intro done a inv _ hr hy H
    refine ⟨fun h => (by rw [h] at hr; cases hr), fun j hj => ?_⟩
    have hun := (mem_ready.1 hr).1
    have hjn : j < n := Nat.lt_of_not_le fun h => tail_waits hs hc hn inv _ i rfl hin hun j h hj
    refine ⟨hjn, ?_⟩
    rcases Nat.decEq j i with hji | hji
    · have := hdone _ _ H j (ready_mono hj hji)
      omega
    · subst hji
      exact hy.qOp hi H
  | succ f ih =>
    intro done a inv hfree hr hy H
    refine ⟨fun h => (by rw [h] at hr; cases hr), fun j hj => ?_⟩
    have hun := (mem_ready.1 hr).1
    have hjn : j < n := Nat.lt_of_not_le fun h => tail_waits hs hc hn inv _ i rfl hin hun j h hj
    refine ⟨hjn, ?_⟩
    rcases Nat.decEq j i with hji | hji
    · obtain ⟨hjun, oj, hoj, hall⟩ := mem_ready.1 hj
      have away : ∀ e ∈ oj.after, Region.binds md e = true → e.on ≠ i := by
        intro e he hb heq
        have h1 := hall e he hb
        rw [heq, getD_both hun] at h1
        cases h1
      have h2 := qOp_put hoj (hfree j oj hoj hji hjun away) (fun cs b => hsel i o cs b hi) (fun cs b => hsel j oj cs b hoj) hy (H.2 j (ready_mono hj hji)).2
      refine qOp_mono (fun a' h3 => ih (done.setIfInBounds j true) a' (inv.set hj hjn) (fun k ok hk hki hku hno => ?_) (ready_mono hr (Ne.symm hji)) h3.1 ?_) h2
      · refine hfree k ok hk hki ?_ hno
        rcases Nat.decEq j k with hjk | hjk
        · rwa [getD_set_ne true hjk] at hku
        · subst hjk; exact hjun
      · rw [Array.setIfInBounds_comm _ _ hji]
        exact h3.2
    · subst hji
      exact hy.qOp hi H

theorem headQ_lex {n g : Nat} {Lq : Act → Prop} (hsel : Region.noSelect ops = true) (hs : Region.sinkB md ops n = true) (hc : Region.chainB md ops n = true) (hn : n < ops.size) (l : List Oper) :
    ∀ (k : Nat) (done : Array Bool) (a : Act), (∀ j, j < l.length → l[j]? = ops[k + j]?) → k + l.length = n → HeadInv md ops n done →
    Region.lexHead md ops g l.length k done = true → wpQuiet P ops C Lq l a →
    headQ P md ops C n (fun done' a' => Region.seqB md ops g n done' = true ∧ Lq a') l.length done a := by
  induction l with
  | nil =>
    intro k done a _ hk _ hB h
    obtain rfl : k = n := by simpa using hk
    exact ⟨by simpa [Region.lexHead] using hB, h⟩
  | cons o l ih =>
    intro k done a hl hk inv hB h
    have h0 : ops[k]? = some o := by simpa using (hl 0 (by simp)).symm
    simp only [List.length_cons, Region.lexHead, Bool.and_eq_true] at hB
    have hkn : k < n := by simp only [List.length_cons] at hk; omega
    have hr : k ∈ Region.ready md ops done := by simpa using hB.1.1
    have hq : qOp P ops C k (wpQuiet P ops C Lq l) a := by unfold qOp; simp only [h0]; exact h
    obtain ⟨v, hy, hK⟩ := yieldsIn_of_qOp h0 hq
    refine headQ_first h0 (Region.noSelect_spec hsel) hs hc hn hkn (fun done' a' hL => seqB_ready hL.1) l.length done a inv (Region.free_spec h0 hB.1.2) hr hy ?_
    exact ih (k + 1) _ _ (fun j hj => by have := hl (j + 1) (by simp; omega); simpa [Nat.add_assoc, Nat.add_comm 1 j] using this) (by simp only [List.length_cons] at hk; omega) (inv.set hr hkn) hB.2 hK

theorem wp_region_qtail {id : Nat} {Q : Exit → Act → World → Prop} {a : Act} {w : World} {l : List Oper} (n : Nat) (hm : P.follows .mixedOrders = true) (hB : Region.lexTailB .any l.toArray n = true)
    (hC : C { w with drawn := w.drawn + 1 })
    (h : wpQuiet P l.toArray C (fun a' => ∀ w', C w' → wpList P l.toArray Q (l.drop n) a' w') (l.take n) a) : (Code.region id l.toArray true).wp P Q a w := by
  simp only [Region.lexTailB, Bool.and_eq_true, decide_eq_true_eq] at hB
  obtain ⟨⟨⟨⟨hsel, hn⟩, hs⟩, hc⟩, hlex⟩ := hB
  have hn' : n < l.length := by simpa using hn
  have htl : (l.take n).length = n := by simp; omega
  have hdl : (l.drop n).length = l.toArray.size - n := by simp
  have H := headQ_lex (md := .any) (g := l.toArray.size - n) hsel hs hc hn (l.take n) 0 (Array.replicate l.toArray.size false) a (fun j hj => by
    rw [htl] at hj
    simp [hj]) (by simpa using htl)
    ⟨by simp, fun j oj _ hl => (by rw [getD_replicate_false] at hl; cases hl), fun t _ ht => getD_in (by simpa using ht) (getD_replicate_false _ _)⟩ (by rw [htl]; exact hlex) h
  refine wp_region_any hm ?_
  have key := wpAny_of_headQ (Q' := Q) (g := l.toArray.size - n) (fun done a' w' hw' hL => by
    have := wpAny_of_seq (md := .any) (Q' := Q) (l.drop n) n done a' w' (fun j => by simp [List.getElem?_drop]) (by rw [hdl]; exact hL.1) (hL.2 w' hw')
    rwa [hdl] at this) _ _ _ { w with drawn := w.drawn + 1 } hC H
  rw [htl, show n + (l.toArray.size - n) = l.toArray.size by omega] at key
  exact key
end

/-! ### Worlds in which all that was there is as it was -/

/-- A world that has what w had, as it was; new blocks beside it. -/
structure Ext (w : World) where
  val : World
  below : Below w.heap.size w val

instance (w : World) : Nonempty (Ext w) := ⟨⟨w, Below.refl _ _⟩⟩
def Grew (w w' : World) : Prop := ∃ x : Ext w, w' = x.val
theorem Grew.of {w w' : World} (h : Below w.heap.size w w') : Grew w w' := ⟨⟨w', h⟩, rfl⟩
theorem Grew.out {w w' : World} (h : Grew w w') : Below w.heap.size w w' := by obtain ⟨x, rfl⟩ := h; exact x.below

@[go_sem] theorem Ext.cell?_val {w : World} (x : Ext w) (b o : Nat) (h : b < w.heap.size) : x.val.cell? ⟨b, o, none⟩ = w.cell? ⟨b, o, none⟩ := x.below.cell (p := ⟨b, o, none⟩) h
@[go_sem] theorem Ext.frozen?_val {w : World} (x : Ext w) (b o : Nat) (h : b < w.heap.size) : x.val.frozen? ⟨b, o, none⟩ = w.frozen? ⟨b, o, none⟩ := x.below.frozen (p := ⟨b, o, none⟩) h
theorem Ext.size_val {w : World} (x : Ext w) : w.heap.size ≤ x.val.heap.size := x.below.size
@[go_sem] theorem Ext.lt_val {w : World} (x : Ext w) (b : Nat) (h : b < w.heap.size) : b < x.val.heap.size := Nat.lt_of_lt_of_le h x.below.size
@[go_sem] theorem Ext.ne_val {w : World} (x : Ext w) (b : Nat) (h : b < w.heap.size) : (b = x.val.heap.size) = False := by simp; have := x.below.size; omega

theorem Calls.ext {P : Program} {f : FuncId} {args : Array Value} {w : World} {v : Value} (x : Ext w) (h : Calls P f args x.val fun e w' => e = .returned v ∧ Below x.val.heap.size x.val w') :
    Calls P f args x.val fun e w'' => e = .returned v ∧ ∃ y : Ext w, w'' = y.val :=
  h.mono fun _ w' ⟨he, hb⟩ => ⟨he, ⟨w', x.below.trans (hb.mono x.below.size)⟩, rfl⟩
theorem Calls.ext_same {P : Program} {f : FuncId} {args : Array Value} {w : World} {v : Value} (x : Ext w) (h : Calls P f args x.val fun e w' => e = .returned v ∧ x.val = w') :
    Calls P f args x.val fun e w'' => e = .returned v ∧ ∃ y : Ext w, w'' = y.val :=
  h.mono fun _ _ ⟨he, hb⟩ => ⟨he, x, hb.symm⟩

/-- A region that draws its order, all of it quiet. -/
theorem wp_region_ext {P : Program} {id : Nat} {Q : Exit → Act → World → Prop} {a : Act} {w : World} {l : List Oper} (hm : P.follows .mixedOrders = true) (hB : Region.lexB .any l.toArray = true)
    (h : wpQuiet P l.toArray (fun w' => ∃ x : Ext w, w' = x.val) (fun a' => ∀ w', (∃ x : Ext w, w' = x.val) → Q .normal a' w') l a) : (Code.region id l.toArray true).wp P Q a w :=
  wp_region_quiet (C := fun w' => ∃ x : Ext w, w' = x.val) hm hB ⟨⟨w.drew, (Below.refl _ _).drew⟩, rfl⟩ (by simpa using h)
/-- .. the first n operations quiet, the others in a forced order. -/
theorem wp_region_ext_tail {P : Program} {id : Nat} {Q : Exit → Act → World → Prop} {a : Act} {w : World} {l : List Oper} (n : Nat) (hm : P.follows .mixedOrders = true) (hB : Region.lexTailB .any l.toArray n = true)
    (h : wpQuiet P l.toArray (fun w' => ∃ x : Ext w, w' = x.val) (fun a' => ∀ w', (∃ x : Ext w, w' = x.val) → wpList P l.toArray Q (l.drop n) a' w') (l.take n) a) : (Code.region id l.toArray true).wp P Q a w :=
  wp_region_qtail (C := fun w' => ∃ x : Ext w, w' = x.val) n hm hB ⟨⟨w.drew, (Below.refl _ _).drew⟩, rfl⟩ h

/-! ### A block known whole -/

/-- Block b of w is a row of the cells c, none of them frozen. -/
structure Blk (w : World) (b : Nat) (c : Array Value) (T : TypeId) : Prop where
  heap : w.heap[b]? = some (.cells c T (0, 0))
theorem Blk.lt {w : World} {b : Nat} {c : Array Value} {T : TypeId} (h : Blk w b c T) : b < w.heap.size := (Array.getElem?_eq_some_iff.1 h.heap).1
theorem Blk.cell {w : World} {b : Nat} {c : Array Value} {T : TypeId} (h : Blk w b c T) (o : Nat) : w.cell? ⟨b, o, none⟩ = c[o]? := by
  simp [World.cell?, h.heap]
theorem Blk.frozen {w : World} {b : Nat} {c : Array Value} {T : TypeId} (h : Blk w b c T) (o : Nat) : w.frozen? ⟨b, o, none⟩ = false := by
  simp [World.frozen?, h.heap]
theorem Blk.below {w w' : World} {b : Nat} {c : Array Value} {T : TypeId} (h : Blk w b c T) (hb : Below w.heap.size w w') : Blk w' b c T := ⟨(hb.block b h.lt).trans h.heap⟩
theorem Blk.ext {w : World} {b : Nat} {c : Array Value} {T : TypeId} (h : Blk w b c T) (x : Ext w) : Blk x.val b c T := h.below x.below
theorem Blk.new (w : World) (c : Array Value) (T : TypeId) : Blk (w.alloc (.cells c T)) w.heap.size c T := ⟨by show (w.heap.push _)[w.heap.size]? = _; simp⟩
theorem Blk.at_ {w : World} {b : Nat} (c : Array Value) (T : TypeId) (h : b = w.heap.size) : Blk (w.alloc (.cells c T)) b c T := by subst h; exact Blk.new w c T
theorem Blk.alloc {w : World} {b : Nat} {c : Array Value} {T : TypeId} (h : Blk w b c T) (o : Obj) : Blk (w.alloc o) b c T := ⟨(Below.heap_alloc _ _ _ h.lt).trans h.heap⟩
theorem Blk.drew {w : World} {b : Nat} {c : Array Value} {T : TypeId} (h : Blk w b c T) : Blk w.drew b c T := ⟨h.heap⟩
theorem Blk.set {w : World} {b : Nat} {c : Array Value} {T : TypeId} (h : Blk w b c T) (o : Nat) (v : Value) : Blk (w.setCell ⟨b, o, none⟩ v) b (c.setIfInBounds o v) T := ⟨by
  show (w.heap.modify _ _)[b]? = _
  rw [Array.getElem?_modify, if_pos rfl, h.heap]; rfl⟩
theorem Blk.other {w : World} {b : Nat} {c : Array Value} {T : TypeId} (h : Blk w b c T) {a : Addr} (ha : b ≠ a.block) (v : Value) : Blk (w.setCell a v) b c T := ⟨(Below.heap_setCell _ _ _ _ ha).trans h.heap⟩


theorem ret_b {a b : Bool} (h : a = b) : Ending.returned (.bool a) = Ending.returned (.bool b) := by rw [h]
theorem ret_i {k : IntKind} {a b : Int} (h : a = b) : Ending.returned (.int k a) = Ending.returned (.int k b) := by rw [h]

/-! ### Growing, step by step -/
theorem gr_refl (w : World) : Below w.heap.size w w := Below.refl _ _
theorem gr_alloc {w w1 : World} (h : Below w.heap.size w w1) (o : Obj) : Below w.heap.size w (w1.alloc o) := h.alloc h.size o
theorem gr_drew {w w1 : World} (h : Below w.heap.size w w1) : Below w.heap.size w w1.drew := h.drew
theorem gr_drewN {w w1 : World} (h : Below w.heap.size w w1) (n : Nat) : Below w.heap.size w (w1.drewN n) := ⟨h.os, h.tape, h.output, h.size, h.block⟩
theorem gr_below {w w1 w2 : World} (h : Below w.heap.size w w1) (k : Below w1.heap.size w1 w2) : Below w.heap.size w w2 := h.trans (k.mono h.size)
theorem gr_ext {w w1 : World} (h : Below w.heap.size w w1) (x : Ext w1) : Below w.heap.size w x.val := gr_below h x.below
theorem gr_set {w w1 : World} (h : Below w.heap.size w w1) {a : Addr} (ha : w.heap.size ≤ a.block) (v : Value) : Below w.heap.size w (w1.setCell a v) := h.setCell ha v
theorem gr_setRow {w w1 : World} (h : Below w.heap.size w w1) {g : Nat} (hg : w.heap.size ≤ g) (cs : Array Value) : Below w.heap.size w (w1.setRow g cs) := h.trans ⟨rfl, rfl, rfl, by simp, fun k hk => setRow_other w1 g k cs (by omega)⟩
theorem Blk.setRow {w : World} {b : Nat} {c : Array Value} {T : TypeId} (h : Blk w b c T) (cs : Array Value) : Blk (w.setRow b cs) b cs T := ⟨setRow_heap w b c cs T _ h.heap⟩
theorem Blk.setRow_other {w : World} {b g : Nat} {c : Array Value} {T : TypeId} (h : Blk w b c T) (hne : b ≠ g) (cs : Array Value) : Blk (w.setRow g cs) b c T := ⟨(Go.setRow_other w g b cs hne).trans h.heap⟩
theorem Blk.grown {w w' : World} {b : Nat} {c : Array Value} {T : TypeId} (h : Blk w b c T) {row : Option Nat} (hg : w.grownBy w' row) (hne : some b ≠ row) : Blk w' b c T := ⟨(hg.block b h.lt hne).trans h.heap⟩
theorem gr_grown {w w1 w2 : World} (h : Below w.heap.size w w1) {row : Option Nat} (hg : w1.grownBy w2 row) (hr : ∀ k, row = some k → w.heap.size ≤ k) : Below w.heap.size w w2 := h.grown hg h.size hr
theorem Calls.grew {P : Program} {f : FuncId} {args : Array Value} {w : World} {v : Value} (x : Ext w) (h : Calls P f args x.val fun e w' => e = .returned v ∧ Grew x.val w') :
    Calls P f args x.val fun e w'' => e = .returned v ∧ ∃ y : Ext w, w'' = y.val :=
  Calls.ext x (h.mono fun _ _ ⟨he, hb⟩ => ⟨he, hb.out⟩)

end Go.Proofs.YtneegcnidoopmaaDoor
