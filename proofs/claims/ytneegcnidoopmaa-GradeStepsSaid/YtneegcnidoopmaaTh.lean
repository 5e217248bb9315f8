/- Contracts of grade.Through and law39.step: what a step is, as a function value. Conditions: the pins lie behind the slice. -/
import Derived.Test.YtneegcnidoopmaaSv
import Derived.Test.YtneegcnidoopmaaSx
import Derived.Test.YtneegcnidoopmaaSy
import Derived.Test.YtneegcnidoopmaaI
import Derived.Test.YtneegcnidoopmaaDo
namespace Go.Proofs.Ytneegcnidoopmaa
open Go.RowKit

theorem Cells2.flat {w : World} {A : Option Addr} {n : Nat} {X Y : Nat → Int} (h : Cells2 w A n X Y) : ∀ ad, A = some ad → ∀ j u, ((List.range n).map (pinC X Y)).flatten[j]? = some u → w.cell? (ad.add j) = some u := by
  intro ad hA j u hj
  rcases Nat.eq_zero_or_pos n with h0 | h0
  · subst h0; simp at hj
  · obtain ⟨b, off, e, hc⟩ := h h0
    rw [hA] at e
    injection e with e
    subst e
    refine flat_cells (sz := 2) (by omega) (fun c hc => ?_) (fun i j hi hj => ?_) j u hj
    · obtain ⟨i, _, rfl⟩ := List.mem_map.1 hc; rfl
    · have hi' : i < n := by simpa using hi
      obtain ⟨q0, q1⟩ := hc i hi'
      have : j = 0 ∨ j = 1 := by omega
      rcases this with rfl | rfl
      · simpa [hi', pinC] using q0
      · simpa [hi', pinC, Nat.add_assoc] using q1
/-- 'append(out, xs...)' at the list of operations. -/
theorem wpList_own_appendN {P : Program} {w : World} {ops : Array Oper} {rest : List Oper} {o : Oper} {a : Act} {Q : Exit → Act → World → Prop} (hgd : o.guard = none) (s x : Operand) (t : TypeId)
    (ho : o.op = .call { callee := .builtin .append, args := #[s, x], argTypes := #[t, t] })
    (base : Nat) (e : TypeId) (z : Value) (sz bytes : Nat) (ht : P.underlying t = some (.slice e)) (hinfo : (P.info? e).map (fun i => (i.zero, i.size, i.bytes)) = some (some z, sz, bytes))
    (hzs : z.cells.size = sz) (hsz : 0 < sz)
    (v : Value) (els : List (List Value)) (hs : a.eval s = v) (hown : Own w base e sz v els)
    (A : Option Addr) (m c : Nat) (news : List (List Value)) (hx : a.eval x = .slice A m c) (hlen : news.length = m) (hel : ∀ c ∈ news, c.length = sz) (hnil : A = none → m = 0 ∧ c = 0)
    (hcells : ∀ ad, A = some ad → ∀ j u, news.flatten[j]? = some u → w.cell? (ad.add j) = some u) (h1 : ∀ c ∈ news, ∀ u ∈ c, u.oneCell' = true)
    (hbytes : (els.length + m) * bytes ≤ 140737488355328) (hb0 : 0 < bytes) {w0 : World} (hbel : Below w0.heap.size w0 w) (hbase : w0.heap.size ≤ base) (hbase' : base ≤ w.heap.size)
    (h : ∀ v' w', Own w' base e sz v' (els ++ news) → Below w0.heap.size w0 w' → w.grownBy w' v.ownBlock → wpList P ops Q rest (a.put o.dst v') w') : wpList P ops Q (o :: rest) a w :=
  wpList_plain hgd fun _ hK => wp_own_appendN (w0 := w0) s x t ho base e z sz bytes ht hinfo hzs hsz v els hs hown A m c news hx hlen hel hnil hcells h1 hbytes hb0 hbel hbase hbase' fun v' w' p q r => hK _ _ (h v' w' p q r)

/-- What A points to is a row of that type. -/
def TypedA (w : World) (A : Option Addr) (T : TypeId) : Prop := ∀ a, A = some a → ∃ c fr, w.heap[a.block]? = some (.cells c T fr)
theorem Own.typed {w : World} {base T sz : Nat} {A : Option Addr} {n cap : Nat} {els : List (List Value)} (h : Own w base T sz (.slice A n cap) els) : TypedA w A T := by
  intro a ha
  rcases h.row.2 with ⟨e, _⟩ | ⟨g, cap', cur, e, _, hh, _⟩
  · injection e with e1; rw [ha] at e1; cases e1
  · injection e with e1
    rw [ha] at e1
    injection e1 with e1
    subst e1
    exact ⟨_, _, hh⟩
/-- A closure over a curve of its own. -/
def RetThrough (w : World) (n : Nat) (X Y : Nat → Int) (e : Ending) (w' : World) : Prop :=
  ∃ p A cap, e = .returned (.func (.func 106) #[] #[.pointer (some ⟨p, 0, none⟩)]) ∧ Blk w' p #[.slice A n cap] 25 ∧ n ≤ cap ∧ Cells2 w' A n X Y ∧ TypedA w' A 132 ∧ Grew w w'

set_option maxHeartbeats 1000000 in
theorem through_any (A : Option Addr) (n cap : Nat) (X Y : Nat → Int) (w : World) (hn : n ≤ 1000000) (hnil : A = none → n = 0 ∧ cap = 0) (hc : Cells2 w A n X Y) :
    Calls Try.prog 68 #[.slice A n cap] w (RetThrough w n X Y) := by
  have HC := Lib.hid hc
  have HN := Lib.hid hnil
  clear hc hnil
  go_enter Try.func68, Try.ntmps68
  go_wp2_with (at_builtin; refine wpList_own_appendN (w0 := w) rfl _ _ 25 rfl w.heap.size 132 (.agg #[.int .i64 0, .int .i64 0]) 2 16 Try.underlying25 (by kernel_rfl) rfl (by omega) _ [] rfl (Own.lit _ _ _ _ [] (by simp) (by simp) (by simp) _ (by simp) _ (by simp) _ (by simp)) A n cap ((List.range n).map (pinC X Y)) rfl (by simp) (by intro c hc; obtain ⟨i, _, rfl⟩ := List.mem_map.1 hc; rfl) HN.out (Cells2.flat (HC.out.below ((by repeat (first | assumption | exact gr_refl _ | refine gr_alloc ?_ _ | refine gr_drew ?_ | refine gr_drewN ?_ _ | refine gr_ext ?_ _ | (refine gr_set ?_ ?_ _; rotate_left; (simp <;> omega))))))) (by intro c hc; obtain ⟨i, _, rfl⟩ := List.mem_map.1 hc; intro u hu; simp [pinC] at hu; rcases hu with rfl | rfl <;> rfl) (by simp; omega) (by omega) ((by repeat (first | assumption | exact gr_refl _ | refine gr_alloc ?_ _ | refine gr_drew ?_ | refine gr_drewN ?_ _ | refine gr_ext ?_ _ | (refine gr_set ?_ ?_ _; rotate_left; (simp <;> omega))))) (Nat.le_refl _) (by simp; omega) ?_)
  intro v' w1 hown1 hb1 hg1
  have hg2 : ((w.alloc (.cells #[.slice A n cap] 25)).alloc (.cells #[] 132)).grownBy w1 (some (w.heap.size + 1)) := hg1
  have r0 : Blk w1 w.heap.size #[.slice A n cap] 25 := Blk.grown (by repeat (first | assumption | (refine Blk.at_ _ _ ?_; simp; done) | refine Blk.alloc ?_ _ | refine Blk.drew ?_ | refine Blk.ext ?_ _ | exact Blk.set (by assumption) _ _ | (refine Blk.other ?_ ?_ _; rotate_left; (simp <;> omega)))) hg2 (by simp)
  obtain ⟨A', cap', rfl, hcap', _, _⟩ := hown1.cells
  have cr := r0.cell
  have fr := r0.frozen
  have hne := hown1.ne_blk r0 (by decide)
  have hr := r0.lt
  have R0 := Lib.hid r0
  simp only [List.nil_append, List.length_map, List.length_range] at hown1 hne hcap'
  have HO := Lib.hid hown1
  have HB := Lib.hid hb1
  have HNE := Lib.hid hne
  clear hown1 hb1 hg1 hg2 r0 hne
  simp only [List.nil_append, List.length_map, List.length_range]
  go_wp2
  go_ret
  have ty := (HO.out.other (a := ⟨w.heap.size, 0, none⟩) HNE.out (.slice A' n cap')).typed
  obtain ⟨A2, cap2, e2, h2, h3⟩ := (HO.out.other (a := ⟨w.heap.size, 0, none⟩) HNE.out (.slice A' n cap')).pins
  injection e2 with e3 e4 e5
  subst e3 e5
  exact ⟨w.heap.size, A', cap', rfl, R0.out.set _ _, h2, h3, ty, Grew.of (gr_set HB.out (by simp) _)⟩
end Go.Proofs.Ytneegcnidoopmaa
