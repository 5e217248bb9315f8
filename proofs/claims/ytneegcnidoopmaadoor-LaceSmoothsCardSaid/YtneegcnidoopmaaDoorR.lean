/- Rows that a call makes by append, element by element: what is owned, read and kept. No conditions but the sizes named. -/
import Derived.Test.YtneegcnidoopmaaDoorQt
namespace Go.Proofs.YtneegcnidoopmaaDoor
open Go.RowKit

/-- The slice v is the call's own and holds the elements els, each of sz cells. -/
structure Own (w : World) (base : Nat) (e : TypeId) (sz : Nat) (v : Value) (els : List (List Value)) : Prop where
  row : w.ownsRow base e sz v els.length els.flatten
  len : ∀ c ∈ els, c.length = sz
theorem Own.nil (w : World) (base : Nat) (e : TypeId) (sz : Nat) : Own w base e sz (.slice none 0 0) [] := ⟨World.ownsRow_nil _ _ _ _, fun c h => by cases h⟩
theorem Own.alloc {w : World} {base : Nat} {e : TypeId} {sz : Nat} {v : Value} {els : List (List Value)} (h : Own w base e sz v els) (o : Obj) : Own (w.alloc o) base e sz v els := ⟨h.row.alloc o, h.len⟩
theorem Own.kept {w w' : World} {base : Nat} {e : TypeId} {sz : Nat} {v : Value} {els : List (List Value)} (h : Own w base e sz v els) {row : Option Nat} (hg : w.grownBy w' row) (hne : v.ownBlock = none ∨ v.ownBlock ≠ row) : Own w' base e sz v els := ⟨h.row.kept hg hne, h.len⟩
theorem grownBy_below {w w1 : World} (h : Below w.heap.size w w1) : w.grownBy w1 none := ⟨h.os, h.tape, h.output, h.size, fun i hi _ => h.block i hi⟩
theorem Own.below {w w1 : World} {base : Nat} {e : TypeId} {sz : Nat} {v : Value} {els : List (List Value)} (h : Own w base e sz v els) (hb : Below w.heap.size w w1) : Own w1 base e sz v els :=
  h.kept (grownBy_below hb) (by cases v.ownBlock <;> simp)
theorem Own.ext {w : World} {base : Nat} {e : TypeId} {sz : Nat} {v : Value} {els : List (List Value)} (h : Own w base e sz v els) (x : Ext w) : Own x.val base e sz v els := h.below x.below
theorem Own.drew {w : World} {base : Nat} {e : TypeId} {sz : Nat} {v : Value} {els : List (List Value)} (h : Own w base e sz v els) : Own w.drew base e sz v els := h.below (Below.refl _ _).drew
/-- A store into another block. -/
theorem grownBy_set (w : World) (a : Addr) (v : Value) : w.grownBy (w.setCell a v) (some a.block) :=
  ⟨rfl, rfl, rfl, by simp [World.setCell], fun k _ hne => Below.heap_setCell _ _ _ _ (fun e => hne (by rw [e]))⟩
theorem Own.other {w : World} {base : Nat} {e : TypeId} {sz : Nat} {v : Value} {els : List (List Value)} (h : Own w base e sz v els) {a : Addr} (ha : v.ownBlock ≠ some a.block) (u : Value) : Own (w.setCell a u) base e sz v els := h.kept (grownBy_set w a u) (.inr ha)
theorem Own.other_lt {w : World} {base : Nat} {e : TypeId} {sz : Nat} {v : Value} {els : List (List Value)} (h : Own w base e sz v els) {a : Addr} (ha : a.block < base) (u : Value) : Own (w.setCell a u) base e sz v els :=
  h.other (fun e => by have := (h.row.lt _ e).1; omega) u

theorem flatten_at {sz : Nat} : ∀ {els : List (List Value)}, (∀ c ∈ els, c.length = sz) → ∀ (i j : Nat), j < sz → els.flatten[i * sz + j]? = (els[i]?).bind (·[j]?)
  | [], _, i, j, _ => by simp
  | c :: els, h, i, j, hj => by
    have hc : c.length = sz := h c (by simp)
    rw [List.flatten_cons]
    cases i with
    | zero => rw [List.getElem?_append_left (by omega)]; simp
    | succ i =>
      rw [List.getElem?_append_right (by rw [Nat.succ_mul]; omega), show (i + 1) * sz + j - c.length = i * sz + j by rw [Nat.succ_mul]; omega,
        flatten_at (fun c' h' => h c' (by simp [h'])) i j hj]
      simp

/-- What is owned, read: its shape, and each cell. -/
theorem Own.cells {w : World} {base : Nat} {e : TypeId} {sz : Nat} {v : Value} {els : List (List Value)} (h : Own w base e sz v els) :
    ∃ A cap, v = .slice A els.length cap ∧ els.length ≤ cap ∧ cap ≤ maxLen ∧ (0 < els.length → ∃ b, A = some ⟨b, 0, none⟩ ∧ base ≤ b ∧ b < w.heap.size ∧
      (∀ o, w.frozen? ⟨b, o, none⟩ = false) ∧ ∀ i j, i < els.length → j < sz → w.cell? ⟨b, i * sz + j, none⟩ = (els[i]?).bind (·[j]?)) := by
  obtain ⟨h1, h2⟩ := h.row
  rcases h2 with ⟨rfl, h0⟩ | ⟨g, cap, cur, rfl, hb, hh, hc1, hc2, hcs, hcur⟩
  · exact ⟨none, 0, by rw [h0], by omega, by unfold maxLen; omega, fun hp => by omega⟩
  · refine ⟨_, cap, rfl, hc1, hc2, fun _ => ⟨g, rfl, hb, (Array.getElem?_eq_some_iff.1 hh).1, fun o => h.row.frozenAt o, fun i j hi hj => ?_⟩⟩
    rw [h.row.cellAt (i * sz + j) (by have : (i + 1) * sz ≤ els.length * sz := Nat.mul_le_mul_right _ hi; rw [Nat.succ_mul] at this; omega), flatten_at h.len i j hj]

/-- 'out = append(out, x)' of one element, whose cells lie in a block of their own. -/
theorem own_append1 {P : Program} {w : World} {ops : Array Oper} {rest : List Oper} {o : Oper} {a : Act} {Q : Exit → Act → World → Prop} (hgd : o.guard = none) (s x : Operand) (t : TypeId)
    (ho : o.op = .call { callee := .builtin .append, args := #[s, x], argTypes := #[t, t] })
    (base : Nat) (e : TypeId) (z : Value) (sz bytes : Nat) (ht : P.underlying t = some (.slice e)) (hinfo : (P.info? e).map (fun i => (i.zero, i.size, i.bytes)) = some (some z, sz, bytes))
    (hzs : z.cells.size = sz) (hsz : 0 < sz)
    (v : Value) (els : List (List Value)) (hs : a.eval s = v) (hown : Own w base e sz v els)
    (b0 : Nat) (c : List Value) (hx : a.eval x = .slice (some ⟨b0, 0, none⟩) 1 1) (hblk : Blk w b0 c.toArray e) (hlc : c.length = sz) (h1 : ∀ u ∈ c, u.oneCell' = true)
    (hbytes : (els.length + 1) * bytes ≤ 140737488355328) (hb0 : 0 < bytes) {w0 : World} (hbel : Below w0.heap.size w0 w) (hbase : w0.heap.size ≤ base) (hbase' : base ≤ w.heap.size)
    (h : ∀ v' w', Own w' base e sz v' (els ++ [c]) → Below w0.heap.size w0 w' → w.grownBy w' v.ownBlock → wpList P ops Q rest (a.put o.dst v') w') : wpList P ops Q (o :: rest) a w := by
  obtain ⟨i0, hi, hz0, hz1, hz2⟩ := info_parts hinfo
  have hm : els.length + 1 ≤ maxLen := by
    have : (els.length + 1) * 1 ≤ (els.length + 1) * bytes := Nat.mul_le_mul_left _ hb0
    unfold maxLen; omega
  refine wpList_append_own w hgd s x t ho base e i0 z sz bytes ht hi hz0 hz1 hz2 hzs hsz v els.length els.flatten hs hown.row ⟨b0, 0, none⟩ 1 1 c hx (by omega)
    (fun j u hj => ?_) h1 hm hbytes hbase' (fun v' w' r1 r2 _ => h v' w' ⟨by simpa using r1, fun c' hc' => ?_⟩ (hbel.grown r2 hbel.size (fun k hk => by have := (hown.row.lt k hk).1; omega)) r2)
  · have : (⟨b0, 0, none⟩ : Addr).add j = ⟨b0, j, none⟩ := by unfold Addr.add; split <;> simp_all
    rw [this, hblk.cell j]
    simpa using hj
  · rcases List.mem_append.1 hc' with hc' | hc'
    · exact hown.len c' hc'
    · obtain rfl := List.mem_singleton.1 hc'
      exact hlc

/-- 'append(out, xs...)': xs nil, empty, or a row of whole elements. -/
theorem wp_own_appendN {P : Program} {w : World} {o : Oper} {a : Act} {K : Act → World → Prop} {Q : Exit → Act → World → Prop} (s x : Operand) (t : TypeId)
    (ho : o.op = .call { callee := .builtin .append, args := #[s, x], argTypes := #[t, t] })
    (base : Nat) (e : TypeId) (z : Value) (sz bytes : Nat) (ht : P.underlying t = some (.slice e)) (hinfo : (P.info? e).map (fun i => (i.zero, i.size, i.bytes)) = some (some z, sz, bytes))
    (hzs : z.cells.size = sz) (hsz : 0 < sz)
    (v : Value) (els : List (List Value)) (hs : a.eval s = v) (hown : Own w base e sz v els)
    (A : Option Addr) (m c : Nat) (news : List (List Value)) (hx : a.eval x = .slice A m c) (hlen : news.length = m) (hel : ∀ c ∈ news, c.length = sz) (hnil : A = none → m = 0 ∧ c = 0)
    (hcells : ∀ ad, A = some ad → ∀ j u, news.flatten[j]? = some u → w.cell? (ad.add j) = some u) (h1 : ∀ c ∈ news, ∀ u ∈ c, u.oneCell' = true)
    (hbytes : (els.length + m) * bytes ≤ 140737488355328) (hb0 : 0 < bytes) {w0 : World} (hbel : Below w0.heap.size w0 w) (hbase : w0.heap.size ≤ base) (hbase' : base ≤ w.heap.size)
    (h : ∀ v' w', Own w' base e sz v' (els ++ news) → Below w0.heap.size w0 w' → w.grownBy w' v.ownBlock → K (a.put o.dst v') w') : o.wp P a w K Q := by
  obtain ⟨i0, hi, hz0, hz1, hz2⟩ := info_parts hinfo
  have hm : els.length + m ≤ maxLen := by
    have : (els.length + m) * 1 ≤ (els.length + m) * bytes := Nat.mul_le_mul_left _ hb0
    unfold maxLen; omega
  have hfl : news.flatten.length = m * sz := by
    rw [List.length_flatten, ← hlen]
    clear hcells h hlen h1
    induction news with
    | nil => simp
    | cons c news ih =>
      simp only [List.map_cons, List.sum_cons, List.length_cons]
      rw [ih (fun c' h' => hel c' (List.mem_cons_of_mem _ h')), hel c (List.mem_cons_self ..), Nat.succ_mul, Nat.add_comm]
  cases A with
  | none =>
    obtain ⟨rfl, rfl⟩ := hnil rfl
    obtain rfl : news = [] := List.length_eq_zero_iff.1 hlen
    have hrun := run_append_owned_none (P := P) (w := w) base t o.type e i0 sz ht hi v els.length els.flatten hown.row
    unfold Oper.wp
    simp [execOp, ho, resolve, invoke, builtin, hs, hx, hrun, Result.andThen]
    exact h v w (by rwa [List.append_nil]) hbel ⟨rfl, rfl, rfl, Nat.le_refl _, fun _ _ _ => rfl⟩
  | some ad =>
    refine wp_append_own w s x t ho base e i0 z sz bytes ht hi hz0 hz1 hz2 hzs hsz v els.length els.flatten hs hown.row ad m c news.flatten hx hfl (hcells ad rfl)
      (fun u hu => by obtain ⟨c', hc', hu'⟩ := List.mem_flatten.1 hu; exact h1 c' hc' u hu') hm hbytes hbase' fun v' w' r1 r2 _ => h v' w' ⟨?_, fun c' hc' => ?_⟩ (hbel.grown r2 hbel.size (fun k hk => by have := (hown.row.lt k hk).1; omega)) r2
    · rw [List.length_append, hlen, List.flatten_append]; exact r1
    · rcases List.mem_append.1 hc' with hc' | hc'
      · exact hown.len c' hc'
      · exact hel c' hc'
theorem step_own_appendN {P : Program} {w : World} {ops : Array Oper} {o : Oper} {a : Act} {K : Act → World → Prop} {Q : Exit → Act → World → Prop} {E : Prop} (hgd : o.guard = none) (h : o.wp P a w K Q) :
    if Region.wanted o (yielded ops a.tmps) = true then Oper.wp P o a w K Q else E := by
  rw [if_pos (by simp [Region.wanted, hgd])]; exact h
theorem wpList_own {P : Program} {w : World} {ops : Array Oper} {rest : List Oper} {o : Oper} {a : Act} {Q : Exit → Act → World → Prop} (hgd : o.guard = none)
    (h : ∀ K : Act → World → Prop, (∀ a w, wpList P ops Q rest a w → K a w) → o.wp P a w K Q) : wpList P ops Q (o :: rest) a w := wpList_plain hgd h
/-- A new row of n elements, written out. -/
theorem Own.lit (w : World) (base : Nat) (e : TypeId) (sz : Nat) (els : List (List Value)) (hb : base ≤ w.heap.size) (hm : els.length ≤ maxLen) (hel : ∀ c ∈ els, c.length = sz) (b : Nat) (hb' : b = w.heap.size) (cs : Array Value) (hcs : cs = els.flatten.toArray) (n : Nat) (hn : n = els.length) :
    Own (w.alloc (.cells cs e)) base e sz (.slice (some ⟨b, 0, none⟩) n n) els := by
  subst hb' hcs hn
  have hfl : els.flatten.length = els.length * sz := by
    rw [List.length_flatten]
    clear hm
    induction els with
    | nil => simp
    | cons c els ih =>
      simp only [List.map_cons, List.sum_cons, List.length_cons]
      rw [ih (fun c' h' => hel c' (List.mem_cons_of_mem _ h')), hel c (List.mem_cons_self ..), Nat.succ_mul, Nat.add_comm]
  exact ⟨by have := World.ownsRow_lit (e := e) (size := sz) w els.flatten.toArray els.length hb hm (by simpa using hfl); simpa using this, hel⟩

/-- 'out = append(out, x)', at the operation. -/
theorem wp_own_append1 {P : Program} {w : World} {o : Oper} {a : Act} {K : Act → World → Prop} {Q : Exit → Act → World → Prop} (s x : Operand) (t : TypeId)
    (ho : o.op = .call { callee := .builtin .append, args := #[s, x], argTypes := #[t, t] })
    (base : Nat) (e : TypeId) (z : Value) (sz bytes : Nat) (ht : P.underlying t = some (.slice e)) (hinfo : (P.info? e).map (fun i => (i.zero, i.size, i.bytes)) = some (some z, sz, bytes))
    (hzs : z.cells.size = sz) (hsz : 0 < sz)
    (v : Value) (els : List (List Value)) (hs : a.eval s = v) (hown : Own w base e sz v els)
    (b0 : Nat) (c : List Value) (hx : a.eval x = .slice (some ⟨b0, 0, none⟩) 1 1) (hblk : Blk w b0 c.toArray e) (hlc : c.length = sz) (h1 : ∀ u ∈ c, u.oneCell' = true)
    (hbytes : (els.length + 1) * bytes ≤ 140737488355328) (hb0 : 0 < bytes) {w0 : World} (hbel : Below w0.heap.size w0 w) (hbase : w0.heap.size ≤ base) (hbase' : base ≤ w.heap.size)
    (h : ∀ v' w', Own w' base e sz v' (els ++ [c]) → Below w0.heap.size w0 w' → w.grownBy w' v.ownBlock → K (a.put o.dst v') w') : o.wp P a w K Q :=
  wp_own_appendN (w0 := w0) s x t ho base e z sz bytes ht hinfo hzs hsz v els hs hown (some ⟨b0, 0, none⟩) 1 1 [c] hx rfl (fun c' hc' => by obtain rfl := List.mem_singleton.1 hc'; exact hlc) (fun e => by cases e)
    (fun ad e j u hj => by
      injection e with e
      subst e
      have : (⟨b0, 0, none⟩ : Addr).add j = ⟨b0, j, none⟩ := by unfold Addr.add; split <;> simp_all
      rw [this, hblk.cell j]
      simpa using hj) (fun c' hc' => by obtain rfl := List.mem_singleton.1 hc'; exact h1) hbytes hb0 hbel hbase hbase' h

theorem Own.mono {w : World} {base base' : Nat} {e : TypeId} {sz : Nat} {v : Value} {els : List (List Value)} (h : Own w base e sz v els) (hb : base' ≤ base) : Own w base' e sz v els := by
  obtain ⟨⟨h1, h2⟩, h3⟩ := h
  refine ⟨⟨h1, ?_⟩, h3⟩
  rcases h2 with h2 | ⟨g, cap, cur, a, b, c⟩
  · exact .inl h2
  · exact .inr ⟨g, cap, cur, a, Nat.le_trans hb b, c⟩
/-- A call hands back a row of its own. -/
def RetOwn (w : World) (T sz : Nat) (els : List (List Value)) (e : Ending) (w' : World) : Prop := ∃ v, e = .returned v ∧ Own w' w.heap.size T sz v els ∧ Below w.heap.size w w'

/-- A whole variable is stored. -/
theorem wpList_store_blk {P : Program} {ops : Array Oper} {rest : List Oper} {o : Oper} {a : Act} {w : World} {Q : Exit → Act → World → Prop} (hgd : o.guard = none) (ty : TypeId) (x y : Operand) (ho : o.op = .store ty x y)
    (g : Nat) (cells : Array Value) (hx : a.eval x = .pointer (some ⟨g, 0, none⟩)) (hy : a.eval y = .agg cells)
    (t : TypeId) (old : Array Value) (hg : Blk w g old t) (hi : (P.info? ty).map (·.size) = some cells.size)
    (hold : old.size = cells.size) (h1 : cells.all (·.oneCell') = true) {w0 : World} (hbel : Below w0.heap.size w0 w) (hgb : w0.heap.size ≤ g)
    (h : ∀ w', Blk w' g cells t → Below w0.heap.size w0 w' → w.grownBy w' (some g) → wpList P ops Q rest (a.put o.dst undef) w') : wpList P ops Q (o :: rest) a w :=
  wpList_store_row hgd ty x y ho g cells hx hy t old hg.heap hi hold h1 (h _ (hg.setRow cells) (gr_setRow hbel hgb cells) ⟨rfl, rfl, rfl, by simp, fun k _ hne => Go.setRow_other w g k cells (fun e => hne (by rw [e]))⟩)

/-- A row lies in no block of another type. -/
theorem Own.ne_blk {w : World} {base : Nat} {e : TypeId} {sz : Nat} {v : Value} {els : List (List Value)} (h : Own w base e sz v els) {b : Nat} {c : Array Value} {T : TypeId} (hb : Blk w b c T) (hT : e ≠ T) : v.ownBlock ≠ some b := by
  rcases h.row.2 with ⟨rfl, _⟩ | ⟨g, cap, cur, rfl, _, hh, _⟩
  · simp [Value.ownBlock]
  · intro he
    have : g = b := by simpa [Value.ownBlock] using he
    subst this
    have h2 := hb.heap
    rw [hh] at h2
    injection h2 with h2
    injection h2 with _ h2
    exact hT h2

/-- Two results, the first one a whole variable. -/
theorem results_cell_tmp_blk {P : Program} {fn : Func} {p u : Tmp} {ty : TypeId} (h : fn.results = #[.cell p ty, .tmp u]) (tmps : Array Value) (w : World) (g : Nat) (t : TypeId) (cs : Array Value) (d : TypeDesc)
    (hp : tmps.getD p undef = .pointer (some ⟨g, 0, none⟩)) (hg : Blk w g cs t)
    (hu : P.underlying ty = some d) (hd : (match d with | .struct _ | .array _ _ => true | _ => false) = true) (hi : (P.info? ty).map (·.size) = some cs.size) :
    (results fn tmps).run P w = .ok (.tuple #[.agg cs, tmps.getD u undef]) w := by
  rw [results_cell_tmp h, hp]
  simp [asAddr, run_loadVar_row w g t ty cs (0, 0) d hg.heap hu hd hi, Result.andThen]
theorem results_cell_blk {P : Program} {fn : Func} {p : Tmp} {ty : TypeId} (h : fn.results = #[.cell p ty]) (tmps : Array Value) (w : World) (g : Nat) (t : TypeId) (cs : Array Value) (d : TypeDesc)
    (hp : tmps.getD p undef = .pointer (some ⟨g, 0, none⟩)) (hg : Blk w g cs t)
    (hu : P.underlying ty = some d) (hd : (match d with | .struct _ | .array _ _ => true | _ => false) = true) (hi : (P.info? ty).map (·.size) = some cs.size) :
    (results fn tmps).run P w = .ok (.agg cs) w := results_cell_row h tmps w g t cs (0, 0) d hp hg.heap hu hd hi
theorem ret_t {a b : Value} (h : a = b) : Ending.returned a = Ending.returned b := by rw [h]

/-- The cells of whole elements, one behind the other. -/
theorem flat_cells {w : World} {b off sz : Nat} {els : List (List Value)} (hs : 0 < sz) (hel : ∀ c ∈ els, c.length = sz) (hc : ∀ i j, i < els.length → j < sz → w.cell? ⟨b, off + (i * sz + j), none⟩ = (els[i]?).bind (·[j]?)) :
    ∀ j u, els.flatten[j]? = some u → w.cell? ((⟨b, off, none⟩ : Addr).add j) = some u := by
  intro j u hj
  have ha : (⟨b, off, none⟩ : Addr).add j = ⟨b, off + j, none⟩ := by unfold Addr.add; split <;> simp_all
  have hd : j / sz * sz + j % sz = j := by rw [Nat.mul_comm]; exact Nat.div_add_mod j sz
  have hr := Nat.mod_lt j hs
  have h1 := flatten_at hel (j / sz) (j % sz) hr
  rw [hd, hj] at h1
  have hi : j / sz < els.length := by
    rcases Nat.lt_or_ge (j / sz) els.length with h | h
    · exact h
    · rw [List.getElem?_eq_none h] at h1; cases h1
  have h2 := hc (j / sz) (j % sz) hi hr
  rw [hd] at h2
  rw [ha, h2, ← h1]

/-- A row by its elements' numbers. -/
theorem map_range_succ {α : Type} (f : Nat → α) (k : Nat) : (List.range (k + 1)).map f = (List.range k).map f ++ [f k] := by rw [List.range_succ, List.map_append]; rfl
end Go.Proofs.YtneegcnidoopmaaDoor
