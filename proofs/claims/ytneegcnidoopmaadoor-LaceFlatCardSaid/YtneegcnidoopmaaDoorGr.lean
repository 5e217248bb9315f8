/- A region that draws its order, whose first n operations only let the world grow (they read, make blocks, call functions that leave old memory alone) and hand back values that are not the same in every order; the others follow in a forced order. Each operation is shown once, whatever ran ahead of it: a fact on its value that stays true while the world grows. No conditions but the closed Bool on the region. -/
import Derived.Test.YtneegcnidoopmaaDoorQt
namespace Go.Proofs.YtneegcnidoopmaaDoor
open Go.RowKit

section
variable {P : Program} {ops : Array Oper} {md : Region.Mode}

def dstOf (ops : Array Oper) (j : Nat) : Option Tmp := (ops[j]?).bind (·.dst)
/-- The act with the values of some operations in their slots. -/
def virt (ops : Array Oper) (vs : Nat → Value) : List Nat → Act → Act
  | [], a => a
  | j :: l, a => virt ops vs l (a.put (dstOf ops j) (vs j))
/-- What one operation leaves: a value of which G holds, and a world that has grown. -/
def gPost (b : Act) (d : Option Tmp) (w : World) (G : Value → World → Prop) : Exit → Act → World → Prop
  | .normal, a', w' => ∃ v, a' = b.put d v ∧ G v w' ∧ Below w.heap.size w w'
  | _, _, _ => False
def YG (P : Program) (ops : Array Oper) (o : Oper) (a : Act) (w : World) (G : Value → World → Prop) : Prop :=
  if Region.wanted o (yielded ops a.tmps) = true then
    match (execOp a.eval o).run P w with
    | .ok (.value v) w' => G v w' ∧ Below w.heap.size w w'
    | .ok .skip w' => G undef w' ∧ Below w.heap.size w w'
    | .ok (.enter f args) w' => Calls P f args w' fun e w'' => ∃ v, e = .returned v ∧ G v w'' ∧ Below w.heap.size w w''
    | .ok (.row r args) w' => Rows P r args w' fun v w'' => G v w'' ∧ Below w.heap.size w w''
    | _ => False
  else G undef w

theorem put_inj {b : Act} {d : Tmp} {v v' : Value} (hd : d < b.tmps.size) (h : b.put (some d) v = b.put (some d) v') : v = v' := by
  have h1 := congrArg (fun a : Act => a.tmps[d]?) h
  simp [Act.put, hd] at h1
  exact h1
theorem YG.of_list {o : Oper} {b : Act} {w : World} {G : Value → World → Prop} {d : Tmp} (hd : o.dst = some d) (hs : d < b.tmps.size) (h : wpList P ops (gPost b o.dst w G) [o] b w) : YG P ops o b w G := by
  unfold wpList at h
  unfold YG
  rw [hd] at h
  have key : ∀ v w', wpList P ops (gPost b (some d) w G) [] (b.put (some d) v) w' → G v w' ∧ Below w.heap.size w w' := by
    rintro v w' ⟨v', e, h1, h2⟩
    rw [put_inj hs e]
    exact ⟨h1, h2⟩
  have lets : ¬ LetsOut (gPost b (some d) w G) := fun ⟨_, _, h⟩ => h
  split at h
  · rename_i hw
    rw [if_pos hw]
    rcases h with h | ⟨_, h⟩
    · unfold Oper.wp at h
      generalize (execOp b.eval o).run P w = r at *
      cases r with
      | ok n w' =>
        cases n <;> simp only [Oper.upon, hd] at h
        case value v => exact key _ _ h
        case skip => exact key _ _ h
        case defer q =>
          exfalso
          obtain ⟨v', e, _⟩ := h
          have := congrArg (fun a : Act => a.defers.length) e
          simp [Act.put] at this
        case enter f args =>
          refine Calls.mono h fun e w'' he => ?_
          cases e with
          | returned v => exact ⟨v, rfl, key _ _ he⟩
          | panicked c => exact he.elim
          | outgrown => exact (lets he).elim
        case row r args => exact Rows.mono h fun v w'' he => key _ _ he
        all_goals exact h.elim
      | halt x w' => cases x <;> simp only [Oper.upon] at h <;> exact h.elim
    · exact (lets h).elim
  · rename_i hw
    rw [if_neg hw]
    exact (key _ _ h).1
theorem YG.congr {o : Oper} {a b : Act} {w : World} {G : Value → World → Prop} (h : YG P ops o b w G) (he : execOp a.eval o = execOp b.eval o) (hw : Region.wanted o (yielded ops a.tmps) = Region.wanted o (yielded ops b.tmps)) : YG P ops o a w G := by
  unfold YG at *
  rw [he, hw]
  exact h
theorem wpOp_of_YG {i : Nat} {o : Oper} {a : Act} {w : World} {G : Value → World → Prop} {Q : Exit → Act → World → Prop} {K : Act → World → Prop} (ho : ops[i]? = some o) (h : YG P ops o a w G)
    (hK : ∀ v w', G v w' → Below w.heap.size w w' → K (a.put o.dst v) w') : wpOp P ops Q i K a w := by
  unfold wpOp
  simp only [ho]
  unfold YG at h
  split
  · rename_i hw
    rw [if_pos hw] at h
    left
    unfold Oper.wp
    generalize (execOp a.eval o).run P w = r at *
    cases r with
    | ok n w' =>
      cases n <;> simp only [Oper.upon]
      case value v => exact hK _ _ h.1 h.2
      case skip => exact hK _ _ h.1 h.2
      case enter f args => exact Calls.mono h fun e w'' ⟨v, he, h1, h2⟩ => by subst he; exact hK _ _ h1 h2
      case row r args => exact Rows.mono h fun v w'' ⟨h1, h2⟩ => hK _ _ h1 h2
      all_goals exact h.elim
    | halt x w' => exact h.elim
  · rename_i hw
    rw [if_neg hw] at h
    exact hK _ _ h (gr_refl w)

/-- The closed facts on the region: the tail is forced; each of the first n operations has a slot of its own and looks only at slots of those that it waits for, or at slots of none. -/
def growB (md : Region.Mode) (ops : Array Oper) (n size : Nat) (D : List (List Nat)) : Bool :=
  Region.noSelect ops && decide (n < ops.size) && Region.sinkB md ops n && Region.chainB md ops n && Region.lexHead md ops (ops.size - n) n 0 (Array.replicate ops.size false) &&
  (List.range n).all fun i => match ops[i]? with
    | none => false
    | some o => (match o.dst with
        | some d => decide (d < size) && (List.range n).all (fun j => j == i || dstOf ops j != some d)
        | none => false) &&
      (D.getD i []).all (fun j => decide (j < n) && o.after.any fun e => Region.binds md e && e.on == j) &&
      (o.looksAt ops).all fun t => (D.getD i []).any (fun j => dstOf ops j == some t) || (List.range n).all (fun j => dstOf ops j != some t)

/-- The value that an operation left. -/
def leftBy (ops : Array Oper) (a : Act) (j : Nat) : Value := match dstOf ops j with
  | some d => a.tmps.getD d undef
  | none => undef
theorem virt_size (vs : Nat → Value) : ∀ (l : List Nat) (a : Act), (virt ops vs l a).tmps.size = a.tmps.size
  | [], _ => rfl
  | j :: l, a => by rw [virt, virt_size vs l, put_size']
where put_size' {a : Act} {d : Option Tmp} {v : Value} : (a.put d v).tmps.size = a.tmps.size := by cases d <;> simp [Act.put]
theorem virt_defers (vs : Nat → Value) : ∀ (l : List Nat) (a : Act), (virt ops vs l a).defers = a.defers
  | [], _ => rfl
  | j :: l, a => by
    rw [virt, virt_defers vs l]
    cases dstOf ops j <;> rfl
theorem virt_out (vs : Nat → Value) (t : Tmp) : ∀ (l : List Nat) (a : Act), (∀ j ∈ l, dstOf ops j ≠ some t) → (virt ops vs l a).tmps[t]? = a.tmps[t]?
  | [], _, _ => rfl
  | j :: l, a, h => by
    rw [virt, virt_out vs t l _ fun k hk => h k (List.mem_cons_of_mem _ hk)]
    have hj := h j (List.mem_cons_self ..)
    cases hd : dstOf ops j with
    | none => rfl
    | some d =>
      rw [hd] at hj
      have : d ≠ t := fun e => hj (by rw [e])
      simp [Act.put, Array.getElem?_setIfInBounds_ne this]
theorem virt_in {v : Value} (vs : Nat → Value) (t : Tmp) : ∀ (l : List Nat) (a : Act), t < a.tmps.size → (∀ j ∈ l, dstOf ops j = some t → vs j = v) → (∃ j ∈ l, dstOf ops j = some t) → (virt ops vs l a).tmps[t]? = some v
  | [], _, _, _, ⟨j, hj, _⟩ => by cases hj
  | j :: l, a, ht, hv, hex => by
    rw [virt]
    by_cases h : ∃ k ∈ l, dstOf ops k = some t
    · exact virt_in vs t l _ (by cases dstOf ops j <;> simpa [Act.put] using ht) (fun k hk => hv k (List.mem_cons_of_mem _ hk)) h
    · rw [virt_out vs t l _ fun k hk e => h ⟨k, hk, e⟩]
      obtain ⟨k, hk, e⟩ := hex
      rcases List.mem_cons.1 hk with rfl | hk
      · rw [e, hv k (List.mem_cons_self ..) e]
        simp [Act.put, ht]
      · exact (h ⟨k, hk, e⟩).elim

structure GInv (md : Region.Mode) (ops : Array Oper) (n : Nat) (F : List (Value → World → Prop)) (w0 : World) (a0 : Act) (done : Array Bool) (a : Act) (w : World) : Prop where
  inv : HeadInv md ops n done
  bel : Below w0.heap.size w0 w
  size : a.tmps.size = a0.tmps.size
  defers : a.defers = a0.defers
  fact : ∀ i, i < n → done.getD i false = true → F.getD i (fun _ _ => True) (leftBy ops a i) w
  rest : ∀ t, (∀ i, i < n → done.getD i false = true → dstOf ops i ≠ some t) → a.tmps[t]? = a0.tmps[t]?

/-- Each of the operations, shown by itself. -/
def stepsG (P : Program) (ops : Array Oper) (w0 : World) (a0 : Act) (D : List (List Nat)) (F : List (Value → World → Prop)) : Nat → List Oper → Prop
  | _, [] => True
  | k, o :: l => (∀ (w : World) (vs : Nat → Value), Below w0.heap.size w0 w → (∀ j ∈ D.getD k [], F.getD j (fun _ _ => True) (vs j) w) →
      wpList P ops (gPost (virt ops vs (D.getD k []) a0) o.dst w (F.getD k (fun _ _ => True))) [o] (virt ops vs (D.getD k []) a0) w) ∧ stepsG P ops w0 a0 D F (k + 1) l
theorem stepsG_at {w0 : World} {a0 : Act} {D : List (List Nat)} {F : List (Value → World → Prop)} : ∀ (l : List Oper) (k i : Nat) (o : Oper), stepsG P ops w0 a0 D F k l → l[i]? = some o →
    ∀ (w : World) (vs : Nat → Value), Below w0.heap.size w0 w → (∀ j ∈ D.getD (k + i) [], F.getD j (fun _ _ => True) (vs j) w) →
      wpList P ops (gPost (virt ops vs (D.getD (k + i) []) a0) o.dst w (F.getD (k + i) (fun _ _ => True))) [o] (virt ops vs (D.getD (k + i) []) a0) w
  | [], _, _, _, _, h => by simp at h
  | o' :: l, k, 0, o, hs, h => by
    obtain rfl : o' = o := by simpa using h
    exact hs.1
  | o' :: l, k, i + 1, o, hs, h => by
    have := stepsG_at l (k + 1) i o hs.2 (by simpa using h)
    rwa [show k + 1 + i = k + (i + 1) by omega] at this

/-- Facts that stay true while the world grows. -/
def MonoG (f : Value → World → Prop) : Prop := ∀ v w w', f v w → Below w.heap.size w w' → f v w'
def Is (c : Value) : Value → World → Prop := fun v _ => v = c
theorem MonoG.is (c : Value) : MonoG (Is c) := fun _ _ _ h _ => h

theorem canon_of {n : Nat} {done : Array Bool} (hs : done.size = ops.size) (hn : n < ops.size) (h1 : ∀ i, i < n → done.getD i false = true) (h2 : ∀ t, n ≤ t → t < ops.size → done.getD t true = false) :
    ∀ (m : Nat) (d0 : Array Bool) (k : Nat), k + m = n → d0.size = ops.size → (∀ i, i < k → d0.getD i false = true) → (∀ t, k ≤ t → t < ops.size → d0.getD t true = false) → ∀ {g : Nat}, Region.lexHead md ops g m k d0 = true → Region.seqB md ops g n done = true
  | 0, d0, k, hk, hd, h3, h4, g, hB => by
    have hkn : k = n := by omega
    subst hkn
    have : done = d0 := by
      apply Array.ext (by rw [hs, hd])
      intro i hi hi'
      by_cases hik : i < k
      · have a := h1 i hik
        have b := h3 i hik
        simp [hi] at a
        simp [hi'] at b
        rw [a, b]
      · have a := h2 i (by omega) (by omega)
        have b := h4 i (by omega) (by omega)
        simp [hi] at a
        simp [hi'] at b
        rw [a, b]
    rw [this]
    exact hB
  | m + 1, d0, k, hk, hd, h3, h4, g, hB => by
    simp only [Region.lexHead, Bool.and_eq_true] at hB
    refine canon_of hs hn h1 h2 m _ (k + 1) (by omega) (by simpa using hd) (fun i hi => ?_) (fun t ht ht' => ?_) hB.2
    · by_cases e : i = k
      · subst e
        have : i < d0.size := by omega
        simp [this]
      · exact getD_set_true (h3 i (by omega))
    · rw [getD_set_ne true (by omega)]
      exact h4 t (by omega) ht'

/-- The first operation that is not done is ready. -/
theorem lex_ready {n g : Nat} {done : Array Bool} : ∀ (m : Nat) (d0 : Array Bool) (k : Nat), k + m = n → d0.size = ops.size → (∀ i, d0.getD i false = true → i < k) → Region.lexHead md ops g m k d0 = true →
    ∀ i, k ≤ i → i < n → (∀ j, j < i → done.getD j false = true) → done.getD i true = false → i ∈ Region.ready md ops done
  | 0, _, k, hk, _, _, _, i, h1, h2, _, _ => by omega
  | m + 1, d0, k, hk, hd, h3, hB, i, h1, h2, h4, h5 => by
    simp only [Region.lexHead, Bool.and_eq_true] at hB
    by_cases e : i = k
    · subst e
      have hr : i ∈ Region.ready md ops d0 := by simpa using hB.1.1
      obtain ⟨_, o, ho, hall⟩ := mem_ready.1 hr
      exact mem_ready.2 ⟨h5, o, ho, fun x hx hb => h4 _ (h3 _ (hall x hx hb))⟩
    · refine lex_ready m _ (k + 1) (by omega) (by simpa using hd) (fun j hj => ?_) hB.2 i (by omega) h2 h4 h5
      by_cases ej : k = j
      · omega
      · rw [getD_set_ne false ej] at hj
        have := h3 j hj
        omega

theorem eval_congr {a b : Act} {o : Oper} (hs : ∀ cs b, o.op ≠ .select cs b) (h : ∀ t ∈ o.looksAt ops, a.tmps[t]? = b.tmps[t]?) : execOp a.eval o = execOp b.eval o :=
  execOp_congr o hs fun x hx => by
    cases x with
    | tmp t =>
      have := h t (List.mem_append_left _ (List.mem_filterMap.2 ⟨.tmp t, by simpa using hx, rfl⟩))
      simp [Act.eval, this]
    | _ => rfl
theorem wanted_congr {a b : Act} {o : Oper} (h : ∀ t ∈ o.looksAt ops, a.tmps[t]? = b.tmps[t]?) : Region.wanted o (yielded ops a.tmps) = Region.wanted o (yielded ops b.tmps) := by
  unfold Region.wanted
  cases hg : o.guard with
  | none => rfl
  | some gb =>
    obtain ⟨g, bb⟩ := gb
    have : yielded ops a.tmps g = yielded ops b.tmps g := by
      unfold yielded
      cases hd : (ops[g]?).bind (·.dst) with
      | none => rfl
      | some t =>
        have ht : t ∈ o.looksAt ops := by simp [Oper.looksAt, hg, hd]
        simp only [Option.bind_some, h t ht]
    simp only [this]

theorem exists_least {p : Nat → Prop} : ∀ i, p i → ∃ k, k ≤ i ∧ p k ∧ ∀ j, j < k → ¬ p j := by
  intro i
  induction i using Nat.strongRecOn with
  | _ i ih =>
    intro h
    by_cases e : ∃ j, j < i ∧ p j
    · obtain ⟨j, hj, hp⟩ := e
      obtain ⟨k, h1, h2, h3⟩ := ih j hj hp
      exact ⟨k, by omega, h2, h3⟩
    · exact ⟨i, Nat.le_refl _, h, fun j hj hp => e ⟨j, hj, hp⟩⟩

theorem wpAny_grow {n : Nat} {D : List (List Nat)} {F : List (Value → World → Prop)} {w0 : World} {a0 : Act} {Q : Exit → Act → World → Prop} (hB : growB md ops n a0.tmps.size D = true) (hF : ∀ f ∈ F, MonoG f)
    (hstep : stepsG P ops w0 a0 D F 0 (ops.toList.take n))
    (htail : ∀ (w : World) (vs : Nat → Value), Below w0.heap.size w0 w → (∀ i, i < n → F.getD i (fun _ _ => True) (vs i) w) → wpList P ops Q (ops.toList.drop n) (virt ops vs (List.range n) a0) w) :
    ∀ (m : Nat) (done : Array Bool) (a : Act) (w : World), GInv md ops n F w0 a0 done a w → ((List.range n).filter fun i => !done.getD i false).length = m → wpAny P md ops Q (m + (ops.size - n)) done a w := by
  simp only [growB, Bool.and_eq_true, decide_eq_true_eq] at hB
  obtain ⟨⟨⟨⟨⟨hsel, hn⟩, hs⟩, hc⟩, hlex⟩, hall⟩ := hB
  have hops : ∀ i, i < n → ∃ o d, ops[i]? = some o ∧ o.dst = some d ∧ dstOf ops i = some d ∧ d < a0.tmps.size ∧ (∀ j, j < n → dstOf ops j = some d → j = i) ∧
      (∀ j ∈ D.getD i [], j < n ∧ ∃ e ∈ o.after, Region.binds md e = true ∧ e.on = j) ∧ ∀ t ∈ o.looksAt ops, (∃ j ∈ D.getD i [], dstOf ops j = some t) ∨ ∀ j, j < n → dstOf ops j ≠ some t := by
    intro i hi
    have h := List.all_eq_true.1 hall i (List.mem_range.2 hi)
    split at h
    · cases h
    · rename_i o ho
      simp only [Bool.and_eq_true] at h
      obtain ⟨⟨h1, h2⟩, h3⟩ := h
      split at h1
      · rename_i d hd
        simp only [Bool.and_eq_true, decide_eq_true_eq] at h1
        refine ⟨o, d, ho, hd, by simp [dstOf, ho, hd], h1.1, fun j hj e => ?_, fun j hj => ?_, fun t ht => ?_⟩
        · have := List.all_eq_true.1 h1.2 j (List.mem_range.2 hj)
          simp [e] at this
          exact this
        · have := List.all_eq_true.1 h2 j hj
          simp only [Bool.and_eq_true, decide_eq_true_eq] at this
          refine ⟨this.1, ?_⟩
          obtain ⟨e, he, hb⟩ := Array.any_eq_true'.1 this.2
          simp only [Bool.and_eq_true, beq_iff_eq] at hb
          exact ⟨e, he, hb.1, hb.2⟩
        · have := List.all_eq_true.1 h3 t ht
          simp only [Bool.or_eq_true] at this
          rcases this with h4 | h4
          · obtain ⟨j, hj, e⟩ := List.any_eq_true.1 h4
            exact .inl ⟨j, hj, by simpa using e⟩
          · refine .inr fun j hj e => ?_
            have := List.all_eq_true.1 h4 j (List.mem_range.2 hj)
            simp [e] at this
      · cases h1
  have hmono : ∀ i, MonoG (F.getD i (fun _ _ => True)) := by
    intro i
    rcases Nat.lt_or_ge i F.length with h | h
    · have : F.getD i (fun _ _ => True) ∈ F := by simp [List.getD, h]
      exact hF _ this
    · have : F.getD i (fun _ _ => True) = fun _ _ => True := by simp [List.getD, List.getElem?_eq_none h]
      rw [this]
      exact fun _ _ _ _ _ => trivial
  intro m
  induction m with
  | zero =>
    intro done a w G hm
    have hd : ∀ i, i < n → done.getD i false = true := by
      intro i hi
      have := List.eq_nil_of_length_eq_zero hm
      by_cases h : done.getD i false = true
      · exact h
      · have h' : i ∈ (List.range n).filter fun i => !done.getD i false := List.mem_filter.2 ⟨List.mem_range.2 hi, by simpa using h⟩
        rw [this] at h'
        cases h'
    have hseq := canon_of G.inv.size hn hd G.inv.tail n _ 0 (by omega) (by simp) (fun i hi => by omega) (fun t _ ht => getD_in (by simpa using ht) (getD_replicate_false _ _)) hlex
    have ha : a = virt ops (leftBy ops a) (List.range n) a0 := by
      have h1 : a.tmps = (virt ops (leftBy ops a) (List.range n) a0).tmps := by
        apply Array.ext_getElem?
        intro t
        by_cases h : ∃ j ∈ List.range n, dstOf ops j = some t
        · obtain ⟨j, hj, e⟩ := h
          obtain ⟨_, d, _, _, hd', hds, _⟩ := hops j (List.mem_range.1 hj)
          rw [e] at hd'
          injection hd' with hd'
          subst hd'
          rw [virt_in (v := a.tmps.getD t undef) (leftBy ops a) t (List.range n) a0 hds (fun k _ e' => by simp [leftBy, e']) ⟨j, hj, e⟩]
          have : t < a.tmps.size := by rw [G.size]; exact hds
          simp [this]
        · rw [virt_out _ t _ _ fun k hk e => h ⟨k, hk, e⟩]
          exact G.rest t fun i hi _ e => h ⟨i, List.mem_range.2 hi, e⟩
      have h2 : a.defers = (virt ops (leftBy ops a) (List.range n) a0).defers := by rw [virt_defers, G.defers]
      cases a
      simp only at h1 h2
      generalize virt ops _ (List.range n) a0 = b at *
      cases b
      simp only at h1 h2
      rw [h1, h2]
    have ht := htail w (leftBy ops a) G.bel (fun i hi => G.fact i hi (hd i hi))
    rw [← ha] at ht
    have hlen : (ops.toList.drop n).length = ops.size - n := by simp
    have := wpAny_of_seq (md := md) (Q' := Q) (ops.toList.drop n) n done a w (fun j => by simp [List.getElem?_drop]) (by rw [hlen]; exact hseq) ht
    rwa [hlen, ← Nat.zero_add (ops.size - n)] at this
  | succ m ih =>
    intro done a w G hm
    have hex : ∃ i, i < n ∧ done.getD i false ≠ true := by
      have hne : ((List.range n).filter fun i => !done.getD i false) ≠ [] := by intro e; rw [e] at hm; simp at hm
      obtain ⟨i, hi⟩ := List.exists_mem_of_ne_nil _ hne
      obtain ⟨h1, h2⟩ := List.mem_filter.1 hi
      exact ⟨i, List.mem_range.1 h1, by simpa using h2⟩
    obtain ⟨i0, hi0⟩ := hex
    obtain ⟨k, _, ⟨hkn, hk2⟩, hk3⟩ := exists_least (p := fun i => i < n ∧ done.getD i false ≠ true) i0 hi0
    have hkun : done.getD k true = false := getD_in (by rw [G.inv.size]; omega) (by simpa using hk2)
    have hkr := lex_ready (done := done) n _ 0 (by omega) (by simp) (fun i hi => by rw [getD_replicate_false] at hi; cases hi) hlex k (Nat.zero_le _) hkn (fun j hj => by
      have := hk3 j hj
      by_cases h : done.getD j false = true
      · exact h
      · exact (this ⟨by omega, h⟩).elim) hkun
    rw [Nat.add_right_comm]
    refine ⟨fun e => (by rw [e] at hkr; cases hkr), fun i hi => ?_⟩
    have hin : i < n := Nat.lt_of_not_le fun h => tail_waits hs hc hn G.inv _ k rfl hkn hkun i h hi
    obtain ⟨o, d, ho, hod, hd', hds, hdis, hdeps, hlook⟩ := hops i hin
    obtain ⟨hun, o', ho', hwait⟩ := mem_ready.1 hi
    obtain rfl : o = o' := Option.some.inj (ho.symm.trans ho')
    have hfd : ∀ j ∈ D.getD i [], F.getD j (fun _ _ => True) (leftBy ops a j) w := by
      intro j hj
      obtain ⟨h1, e, he, hb, rfl⟩ := hdeps j hj
      exact G.fact _ h1 (hwait e he hb)
    have hst := stepsG_at (ops.toList.take n) 0 i o hstep (by simp [hin, ho]) w (leftBy ops a) G.bel (by rw [Nat.zero_add]; exact hfd)
    rw [Nat.zero_add] at hst
    have hslot : ∀ t ∈ o.looksAt ops, a.tmps[t]? = (virt ops (leftBy ops a) (D.getD i []) a0).tmps[t]? := by
      intro t ht
      by_cases h : ∃ j ∈ D.getD i [], dstOf ops j = some t
      · obtain ⟨j, hj, e⟩ := h
        obtain ⟨_, d2, _, _, hd2, hds2, _⟩ := hops j (hdeps j hj).1
        rw [e] at hd2
        injection hd2 with hd2
        subst hd2
        rw [virt_in (v := a.tmps.getD t undef) (leftBy ops a) t _ a0 hds2 (fun k _ e' => by simp [leftBy, e']) ⟨j, hj, e⟩]
        have : t < a.tmps.size := by rw [G.size]; exact hds2
        simp [this]
      · rw [virt_out _ t _ _ fun k hk e => h ⟨k, hk, e⟩]
        rcases hlook t ht with h1 | h1
        · exact (h h1).elim
        · exact G.rest t fun i hi _ => h1 i hi
    have hyg : YG P ops o a w (F.getD i (fun _ _ => True)) := (YG.of_list hod (by rw [virt_size]; exact hds) hst).congr (eval_congr (fun cs b => Region.noSelect_spec hsel i o cs b ho) hslot) (wanted_congr hslot)
    refine wpOp_of_YG ho hyg fun v w' hv hb => ?_
    have hcount : ((List.range n).filter fun j => !(done.setIfInBounds i true).getD j false).length = m := by
      have h1 : i ∈ (List.range n).filter fun j => !done.getD j false := List.mem_filter.2 ⟨List.mem_range.2 hin, by rw [getD_both hun]; rfl⟩
      have h2 : ((List.range n).filter fun j => !(done.setIfInBounds i true).getD j false) = ((List.range n).filter fun j => !done.getD j false).erase i := by
        rw [List.Nodup.erase_eq_filter ((List.nodup_range).filter _), List.filter_filter]
        apply List.filter_congr
        intro j hj
        by_cases e : i = j
        · subst e
          have : i < done.size := by rw [G.inv.size]; omega
          simp [this]
        · rw [getD_set_ne false e]
          have : (j != i) = true := by simp; omega
          rw [this, Bool.true_and]
      rw [h2, List.length_erase_of_mem h1, hm]
      rfl
    refine ih _ _ _ ⟨G.inv.set hi hin, gr_below G.bel hb, ?_, ?_, fun j hj hdj => ?_, fun t ht => ?_⟩ hcount
    · rw [← G.size, hod]; simp [Act.put]
    · rw [← G.defers, hod]; rfl
    · by_cases e : i = j
      · subst e
        have : leftBy ops (a.put o.dst v) i = v := by
          have hlt : d < a.tmps.size := by rw [G.size]; exact hds
          simp [leftBy, hd', hod, Act.put, hlt]
        rw [this]
        exact hv
      · rw [getD_set_ne false e] at hdj
        have hl : leftBy ops (a.put o.dst v) j = leftBy ops a j := by
          obtain ⟨_, dj, _, _, hdj', _, _⟩ := hops j hj
          have hne : d ≠ dj := fun e' => e (by have := hdis j hj (by rw [hdj', e']); exact this.symm)
          simp [leftBy, hdj', hod, Act.put, Array.getElem?_setIfInBounds_ne hne]
        rw [hl]
        exact hmono j _ _ _ (G.fact j hj hdj) hb
    · have hself : (done.setIfInBounds i true).getD i false = true := by
        have : i < done.size := by rw [G.inv.size]; omega
        simp [this]
      have hne : d ≠ t := fun e => ht i hin hself (by rw [hd', e])
      rw [hod]
      have h1 : (a.put (some d) v).tmps[t]? = a.tmps[t]? := by simp [Act.put, Array.getElem?_setIfInBounds_ne hne]
      rw [h1]
      exact G.rest t fun j hj hdj => ht j hj (getD_set_true hdj)

/-- A region that draws its order, the first n operations growing. -/
theorem wp_region_grow {id : Nat} {Q : Exit → Act → World → Prop} {a : Act} {w : World} {l : List Oper} (n : Nat) (D : List (List Nat)) (F : List (Value → World → Prop)) (hm : P.follows .mixedOrders = true) (hB : growB .any l.toArray n a.tmps.size D = true) (hF : ∀ f ∈ F, MonoG f)
    (hstep : stepsG P l.toArray w.drew a D F 0 (l.take n))
    (htail : ∀ (w' : World) (vs : Nat → Value), Below w.drew.heap.size w.drew w' → (∀ i, i < n → F.getD i (fun _ _ => True) (vs i) w') → wpList P l.toArray Q (l.drop n) (virt l.toArray vs (List.range n) a) w') :
    (Code.region id l.toArray true).wp P Q a w := by
  refine wp_region_any hm ?_
  have hB' := hB
  simp only [growB, Bool.and_eq_true, decide_eq_true_eq] at hB'
  have hn : n < l.toArray.size := hB'.1.1.1.1.2
  have h := wpAny_grow (P := P) (Q := Q) hB hF (by simpa using hstep) (fun w' vs h1 h2 => by simpa using htail w' vs h1 h2) n (Array.replicate l.toArray.size false) a w.drew
    ⟨⟨by simp, fun j oj _ hl => (by rw [getD_replicate_false] at hl; cases hl), fun t _ ht => getD_in (by simpa using ht) (getD_replicate_false _ _)⟩, gr_refl _, rfl, rfl, fun i _ hd => (by rw [getD_replicate_false] at hd; cases hd), fun t _ => rfl⟩
    (by
      have : (List.range n).filter (fun i => !(Array.replicate l.toArray.size false).getD i false) = List.range n := List.filter_eq_self.2 fun i _ => by rw [getD_replicate_false]; rfl
      rw [this, List.length_range])
  have e : n + (l.toArray.size - n) = l.toArray.size := by omega
  rw [e] at h
  exact h
end
end Go.Proofs.YtneegcnidoopmaaDoor
