/- The same with one operation that may also come late: behind the first one of the forced tail. No conditions but the closed Bool on the region. -/
import Derived.Test.YtneegcnidoopmaaDoorGr
namespace Go.Proofs.YtneegcnidoopmaaDoor
open Go.RowKit

section
variable {P : Program} {ops : Array Oper} {md : Region.Mode}

/-- These operations, one by one, nothing else ready. -/
def forcedB (md : Region.Mode) (ops : Array Oper) : List Nat → Array Bool → Bool
  | [], done => (Region.ready md ops done).isEmpty
  | i :: l, done => decide (Region.ready md ops done = [i]) && forcedB md ops l (done.setIfInBounds i true)
def opsAt (ops : Array Oper) (l : List Nat) : List Oper := l.filterMap fun i => ops[i]?
theorem wpAny_of_forced {Q : Exit → Act → World → Prop} : ∀ (l : List Nat) (done : Array Bool) (a : Act) (w : World), (∀ i ∈ l, i < ops.size) → forcedB md ops l done = true → wpList P ops Q (opsAt ops l) a w → wpAny P md ops Q l.length done a w
  | [], done, a, w, _, hB, h => ⟨by simpa [forcedB] using hB, h⟩
  | i :: l, done, a, w, hl, hB, h => by
    have hi := hl i (List.mem_cons_self ..)
    have h0 : ops[i]? = some ops[i] := by simp [hi]
    simp only [forcedB, Bool.and_eq_true, decide_eq_true_eq] at hB
    refine ⟨fun h1 => (by rw [hB.1] at h1; cases h1), fun j hj => ?_⟩
    rw [hB.1] at hj
    have hji : j = i := by simpa using hj
    subst hji
    have h' : wpList P ops Q (ops[j] :: opsAt ops l) a w := by simpa [opsAt, List.filterMap_cons, h0] using h
    have hw : wpOp P ops Q j (wpList P ops Q (opsAt ops l)) a w := by unfold wpOp; simp only [h0]; exact h'
    exact wpOp_mono (fun a' w' h2 => wpAny_of_forced l _ a' w' (fun k hk => hl k (List.mem_cons_of_mem _ hk)) hB.2 h2) hw

/-- All of the first n but p. -/
def canonP (N n p : Nat) : Array Bool := ((List.range N).map fun i => decide (i < n ∧ i ≠ p)).toArray
def canonN (N n : Nat) : Array Bool := ((List.range N).map fun i => decide (i < n)).toArray
def growPB (md : Region.Mode) (ops : Array Oper) (n p size : Nat) (D : List (List Nat)) : Bool :=
  Region.noSelect ops && decide (n < ops.size) && decide (p < n) &&
  ((List.range n).all fun i => i == p || Region.waitsFor md ops n i) && ((List.range ops.size).all fun t => decide (t ≤ n) || Region.waitsFor md ops t (t - 1)) &&
  forcedB md ops (List.range' n (ops.size - n)) (canonN ops.size n) && decide (Region.ready md ops (canonP ops.size n p) = [p, n]) && forcedB md ops (p :: List.range' (n + 1) (ops.size - n - 1)) ((canonP ops.size n p).setIfInBounds n true) &&
  (List.range n).all fun i => match ops[i]? with
    | none => false
    | some o => (match o.dst with
        | some d => decide (d < size) && (List.range n).all (fun j => j == i || dstOf ops j != some d)
        | none => false) &&
      (D.getD i []).all (fun j => decide (j < n) && o.after.any fun e => Region.binds md e && e.on == j) &&
      ((o.looksAt ops).all fun t => (D.getD i []).any (fun j => dstOf ops j == some t) || (List.range n).all (fun j => dstOf ops j != some t)) &&
      (o.after.all fun e => !Region.binds md e || decide (e.on < i))

theorem canonP_get {N n p i : Nat} (b : Bool) (hi : i < N) : (canonP N n p).getD i b = decide (i < n ∧ i ≠ p) := by simp [canonP, hi]
theorem canonN_get {N n i : Nat} (b : Bool) (hi : i < N) : (canonN N n).getD i b = decide (i < n) := by simp [canonN, hi]
theorem done_eq {done c : Array Bool} {N : Nat} (h1 : done.size = N) (h2 : c.size = N) (h : ∀ i, i < N → done.getD i false = c.getD i false) : done = c := by
  apply Array.ext (by rw [h1, h2])
  intro i hi hi'
  have := h i (by omega)
  simpa [hi, hi'] using this

theorem wpAny_growP {n p : Nat} {D : List (List Nat)} {F : List (Value → World → Prop)} {w0 : World} {a0 : Act} {Q : Exit → Act → World → Prop} (hB : growPB md ops n p a0.tmps.size D = true) (hF : ∀ f ∈ F, MonoG f)
    (hstep : stepsG P ops w0 a0 D F 0 (ops.toList.take n))
    (htail : ∀ (w : World) (vs : Nat → Value), Below w0.heap.size w0 w → (∀ i, i < n → F.getD i (fun _ _ => True) (vs i) w) → wpList P ops Q (opsAt ops (List.range' n (ops.size - n))) (virt ops vs (List.range n) a0) w)
    (hlate : ∀ (w : World) (vs : Nat → Value), Below w0.heap.size w0 w → (∀ i, i < n → i ≠ p → F.getD i (fun _ _ => True) (vs i) w) →
      wpList P ops Q (opsAt ops (p :: List.range' n (ops.size - n))) (virt ops vs ((List.range n).filter (· ≠ p)) a0) w ∧ wpList P ops Q (opsAt ops (n :: p :: List.range' (n + 1) (ops.size - n - 1))) (virt ops vs ((List.range n).filter (· ≠ p)) a0) w) :
    ∀ (m : Nat) (done : Array Bool) (a : Act) (w : World), GInv md ops n F w0 a0 done a w → ((List.range n).filter fun i => !done.getD i false).length = m → wpAny P md ops Q (m + (ops.size - n)) done a w := by
  simp only [growPB, Bool.and_eq_true, decide_eq_true_eq] at hB
  obtain ⟨⟨⟨⟨⟨⟨⟨⟨hsel, hn⟩, hp⟩, hwait⟩, hchain⟩, hf1⟩, hr2⟩, hf3⟩, hall⟩ := hB
  have hops : ∀ i, i < n → ∃ o d, ops[i]? = some o ∧ o.dst = some d ∧ dstOf ops i = some d ∧ d < a0.tmps.size ∧ (∀ j, j < n → dstOf ops j = some d → j = i) ∧
      (∀ j ∈ D.getD i [], j < n ∧ ∃ e ∈ o.after, Region.binds md e = true ∧ e.on = j) ∧ (∀ t ∈ o.looksAt ops, (∃ j ∈ D.getD i [], dstOf ops j = some t) ∨ ∀ j, j < n → dstOf ops j ≠ some t) ∧ (∀ e ∈ o.after, Region.binds md e = true → e.on < i) := by
    intro i hi
    have h := List.all_eq_true.1 hall i (List.mem_range.2 hi)
    split at h
    · cases h
    · rename_i o ho
      simp only [Bool.and_eq_true] at h
      obtain ⟨⟨⟨h1, h2⟩, h3⟩, h4⟩ := h
      split at h1
      · rename_i d hd
        simp only [Bool.and_eq_true, decide_eq_true_eq] at h1
        refine ⟨o, d, ho, hd, by simp [dstOf, ho, hd], h1.1, fun j hj e => ?_, fun j hj => ?_, fun t ht => ?_, fun e he hb => ?_⟩
        · have := List.all_eq_true.1 h1.2 j (List.mem_range.2 hj)
          simp [e] at this
          exact this
        · have := List.all_eq_true.1 h2 j hj
          simp only [Bool.and_eq_true, decide_eq_true_eq] at this
          refine ⟨this.1, ?_⟩
          obtain ⟨e, he, hb⟩ := Array.any_eq_true'.1 this.2
          simp only [Bool.and_eq_true, beq_iff_eq] at hb
          exact ⟨e, he, hb.1, hb.2⟩
        · have := List.all_eq_true.1 h3 t ht
          simp only [Bool.or_eq_true] at this
          rcases this with h4 | h4
          · obtain ⟨j, hj, e⟩ := List.any_eq_true.1 h4
            exact .inl ⟨j, hj, by simpa using e⟩
          · refine .inr fun j hj e => ?_
            have := List.all_eq_true.1 h4 j (List.mem_range.2 hj)
            simp [e] at this
        · have := Array.all_eq_true'.1 h4 e he
          simpa [hb] using this
      · cases h1
  have hmono : ∀ i, MonoG (F.getD i (fun _ _ => True)) := by
    intro i
    rcases Nat.lt_or_ge i F.length with h | h
    · have : F.getD i (fun _ _ => True) ∈ F := by simp [List.getD, h]
      exact hF _ this
    · have : F.getD i (fun _ _ => True) = fun _ _ => True := by simp [List.getD, List.getElem?_eq_none h]
      rw [this]
      exact fun _ _ _ _ _ => trivial
  have hvirt : ∀ (done : Array Bool) (a : Act) (w : World) (l : List Nat), GInv md ops n F w0 a0 done a w → (∀ i, i ∈ l ↔ i < n ∧ done.getD i false = true) → a = virt ops (leftBy ops a) l a0 := by
    intro done a w l G hl
    have h1 : a.tmps = (virt ops (leftBy ops a) l a0).tmps := by
      apply Array.ext_getElem?
      intro t
      by_cases h : ∃ j ∈ l, dstOf ops j = some t
      · obtain ⟨j, hj, e⟩ := h
        obtain ⟨_, d, _, _, hd', hds, _⟩ := hops j ((hl j).1 hj).1
        rw [e] at hd'
        injection hd' with hd'
        subst hd'
        rw [virt_in (v := a.tmps.getD t undef) (leftBy ops a) t l a0 hds (fun k _ e' => by simp [leftBy, e']) ⟨j, hj, e⟩]
        have : t < a.tmps.size := by rw [G.size]; exact hds
        simp [this]
      · rw [virt_out _ t _ _ fun k hk e => h ⟨k, hk, e⟩]
        exact G.rest t fun i hi hd e => h ⟨i, (hl i).2 ⟨hi, hd⟩, e⟩
    have h2 : a.defers = (virt ops (leftBy ops a) l a0).defers := by rw [virt_defers, G.defers]
    cases a
    simp only at h1 h2
    generalize virt ops _ l a0 = b at *
    cases b
    simp only at h1 h2
    rw [h1, h2]
  intro m
  induction m with
  | zero =>
    intro done a w G hm
    have hd : ∀ i, i < n → done.getD i false = true := by
      intro i hi
      have := List.eq_nil_of_length_eq_zero hm
      by_cases h : done.getD i false = true
      · exact h
      · have h' : i ∈ (List.range n).filter fun i => !done.getD i false := List.mem_filter.2 ⟨List.mem_range.2 hi, by simpa using h⟩
        rw [this] at h'
        cases h'
    have hc : done = canonN ops.size n := done_eq G.inv.size (by simp [canonN]) fun i hi => by
      rw [canonN_get _ hi]
      by_cases h : i < n
      · rw [hd i h]; simp [h]
      · have := getD_both (G.inv.tail i (by omega) hi)
        rw [this]; simp [h]
    have ht := htail w (leftBy ops a) G.bel (fun i hi => G.fact i hi (hd i hi))
    rw [← hvirt done a w (List.range n) G (fun i => by rw [List.mem_range]; exact ⟨fun h => ⟨h, hd i h⟩, fun h => h.1⟩)] at ht
    have := wpAny_of_forced (md := md) (List.range' n (ops.size - n)) done a w (fun i hi => by have := List.mem_range'_1.1 hi; omega) (by rw [hc]; exact hf1) ht
    simpa using this
  | succ m ih =>
    intro done a w G hm
    have hex : ∃ i, i < n ∧ done.getD i false ≠ true := by
      have hne : ((List.range n).filter fun i => !done.getD i false) ≠ [] := by intro e; rw [e] at hm; simp at hm
      obtain ⟨i, hi⟩ := List.exists_mem_of_ne_nil _ hne
      obtain ⟨h1, h2⟩ := List.mem_filter.1 hi
      exact ⟨i, List.mem_range.1 h1, by simpa using h2⟩
    by_cases hlast : ∀ i, i < n → i ≠ p → done.getD i false = true
    · -- only p is left
      have hpd : done.getD p false = false := by
        obtain ⟨i, hi, hd⟩ := hex
        by_cases e : i = p
        · subst e; simpa using hd
        · exact (hd (hlast i hi e)).elim
      have hc : done = canonP ops.size n p := done_eq G.inv.size (by simp [canonP]) fun i hi => by
        rw [canonP_get _ hi]
        by_cases h : i < n
        · by_cases e : i = p
          · subst e; rw [hpd]; simp
          · rw [hlast i h e]; simp [h, e]
        · have := getD_both (G.inv.tail i (by omega) hi)
          rw [this]; simp [h]
      have hm1 : m = 0 := by
        have hfil : ((List.range n).filter fun i => !done.getD i false) = (List.range n).filter fun i => i == p := by
          apply List.filter_congr
          intro i hi
          have hi' := List.mem_range.1 hi
          by_cases e : i = p
          · subst e; rw [hpd]; simp
          · rw [hlast i hi' e]; simp [e]
        rw [hfil] at hm
        have hnd : ((List.range n).filter fun i => i == p).length ≤ 1 := by
          rw [← List.countP_eq_length_filter]
          exact List.nodup_iff_count.1 List.nodup_range p
        omega
      subst hm1
      obtain ⟨l1, l2⟩ := hlate w (leftBy ops a) G.bel (fun i hi hne => G.fact i hi (hlast i hi hne))
      rw [← hvirt done a w ((List.range n).filter (· ≠ p)) G (fun i => by
        rw [List.mem_filter, List.mem_range]
        simp only [decide_eq_true_eq, ne_eq]
        exact ⟨fun h => ⟨h.1, hlast i h.1 h.2⟩, fun h => ⟨h.1, fun e => by subst e; rw [hpd] at h; simp at h⟩⟩)] at l1 l2
      have hpo : ops[p]? = some ops[p] := by simp [show p < ops.size by omega]
      have hno : ops[n]? = some ops[n] := by simp [hn]
      rw [show 0 + 1 + (ops.size - n) = (ops.size - n) + 1 by omega]
      refine ⟨fun e => (by rw [hc, hr2] at e; cases e), fun i hi => ?_⟩
      rw [hc, hr2] at hi
      have hcs : done.setIfInBounds p true = canonN ops.size n := done_eq (N := ops.size) (by simp [G.inv.size]) (by simp [canonN]) fun i hi => by
        rw [canonN_get _ hi]
        by_cases e : p = i
        · subst e
          have : p < done.size := by rw [G.inv.size]; exact hi
          simp [this, hp]
        · rw [getD_set_ne false e, hc, canonP_get _ hi]
          by_cases h : i < n
          · simp [h, Ne.symm e]
          · simp [h]
      rcases List.mem_cons.1 hi with rfl | hi
      · have h' : wpList P ops Q (ops[i] :: opsAt ops (List.range' n (ops.size - n))) a w := by simpa [opsAt, List.filterMap_cons, hpo] using l1
        have hw : wpOp P ops Q i (wpList P ops Q (opsAt ops (List.range' n (ops.size - n)))) a w := by unfold wpOp; simp only [hpo]; exact h'
        refine wpOp_mono (fun a' w' h2 => ?_) hw
        have := wpAny_of_forced (md := md) (List.range' n (ops.size - n)) (done.setIfInBounds i true) a' w' (fun i hi => by have := List.mem_range'_1.1 hi; omega) (by rw [hcs]; exact hf1) h2
        simpa using this
      · have hin : i = n := by simpa using hi
        subst hin
        have h' : wpList P ops Q (ops[i] :: opsAt ops (p :: List.range' (i + 1) (ops.size - i - 1))) a w := by
          have : opsAt ops (i :: p :: List.range' (i + 1) (ops.size - i - 1)) = ops[i] :: opsAt ops (p :: List.range' (i + 1) (ops.size - i - 1)) := by
            rw [opsAt, List.filterMap_cons, hno]
            rfl
          rw [this] at l2
          exact l2
        have hw : wpOp P ops Q i (wpList P ops Q (opsAt ops (p :: List.range' (i + 1) (ops.size - i - 1)))) a w := by unfold wpOp; simp only [hno]; exact h'
        refine wpOp_mono (fun a' w' h2 => ?_) hw
        have := wpAny_of_forced (md := md) (p :: List.range' (i + 1) (ops.size - i - 1)) (done.setIfInBounds i true) a' w' (fun k hk => by
          rcases List.mem_cons.1 hk with rfl | hk
          · omega
          · have := List.mem_range'_1.1 hk; omega) (by rw [hc]; exact hf3) h2
        have e : (p :: List.range' (i + 1) (ops.size - i - 1)).length = ops.size - i := by simp; omega
        rw [e] at this
        exact this
    · have hex2 : ∃ i, i < n ∧ i ≠ p ∧ done.getD i false = false := by
        by_cases h : ∃ i, i < n ∧ i ≠ p ∧ done.getD i false = false
        · exact h
        · exact (hlast fun i hi hne => by
            by_cases hd : done.getD i false = true
            · exact hd
            · exact (h ⟨i, hi, hne, by simpa using hd⟩).elim).elim
      obtain ⟨i0, hi0⟩ := hex
      obtain ⟨k, _, ⟨hkn, hk2⟩, hk3⟩ := exists_least (p := fun i => i < n ∧ done.getD i false ≠ true) i0 hi0
      have hkun : done.getD k true = false := getD_in (by rw [G.inv.size]; omega) (by simpa using hk2)
      have hkr : k ∈ Region.ready md ops done := by
        obtain ⟨o, d, ho, _, _, _, _, _, _, hlow⟩ := hops k hkn
        refine mem_ready.2 ⟨hkun, o, ho, fun e he hb => ?_⟩
        have hlt := hlow e he hb
        have := hk3 _ hlt
        by_cases h : done.getD e.on false = true
        · exact h
        · exact (this ⟨by omega, h⟩).elim
      rw [Nat.add_right_comm]
      refine ⟨fun e => (by rw [e] at hkr; cases hkr), fun i hi => ?_⟩
      have hin : i < n := by
        rcases Nat.lt_or_ge i n with h | h
        · exact h
        · exfalso
          obtain ⟨hun, o, ho, hall'⟩ := mem_ready.1 hi
          have hisz : i < ops.size := (Array.getElem?_eq_some_iff.1 ho).1
          obtain ⟨j, hj, hjp, hjd⟩ := hex2
          by_cases e : i = n
          · subst e
            have h1 := List.all_eq_true.1 hwait j (List.mem_range.2 hj)
            simp only [Bool.or_eq_true, beq_iff_eq] at h1
            rcases h1 with h1 | h1
            · exact hjp h1
            · obtain ⟨o', ho', x, hx, hb, hon⟩ := Region.waitsFor_spec h1
              obtain rfl : o = o' := Option.some.inj (ho.symm.trans ho')
              have := hall' x hx hb
              rw [hon, hjd] at this
              cases this
          · have h1 := List.all_eq_true.1 hchain i (List.mem_range.2 hisz)
            simp only [Bool.or_eq_true, decide_eq_true_eq] at h1
            rcases h1 with h1 | h1
            · omega
            · obtain ⟨o', ho', x, hx, hb, hon⟩ := Region.waitsFor_spec h1
              obtain rfl : o = o' := Option.some.inj (ho.symm.trans ho')
              have := hall' x hx hb
              rw [hon, getD_both (G.inv.tail (i - 1) (by omega) (by omega))] at this
              cases this
      obtain ⟨o, d, ho, hod, hd', hds, hdis, hdeps, hlook, _⟩ := hops i hin
      obtain ⟨hun, o', ho', hwt⟩ := mem_ready.1 hi
      obtain rfl : o = o' := Option.some.inj (ho.symm.trans ho')
      have hfd : ∀ j ∈ D.getD i [], F.getD j (fun _ _ => True) (leftBy ops a j) w := by
        intro j hj
        obtain ⟨h1, e, he, hb, rfl⟩ := hdeps j hj
        exact G.fact _ h1 (hwt e he hb)
      have hst := stepsG_at (ops.toList.take n) 0 i o hstep (by simp [hin, ho]) w (leftBy ops a) G.bel (by rw [Nat.zero_add]; exact hfd)
      rw [Nat.zero_add] at hst
      have hslot : ∀ t ∈ o.looksAt ops, a.tmps[t]? = (virt ops (leftBy ops a) (D.getD i []) a0).tmps[t]? := by
        intro t ht
        by_cases h : ∃ j ∈ D.getD i [], dstOf ops j = some t
        · obtain ⟨j, hj, e⟩ := h
          obtain ⟨_, d2, _, _, hd2, hds2, _⟩ := hops j (hdeps j hj).1
          rw [e] at hd2
          injection hd2 with hd2
          subst hd2
          rw [virt_in (v := a.tmps.getD t undef) (leftBy ops a) t _ a0 hds2 (fun k _ e' => by simp [leftBy, e']) ⟨j, hj, e⟩]
          have : t < a.tmps.size := by rw [G.size]; exact hds2
          simp [this]
        · rw [virt_out _ t _ _ fun k hk e => h ⟨k, hk, e⟩]
          rcases hlook t ht with h1 | h1
          · exact (h h1).elim
          · exact G.rest t fun i hi _ => h1 i hi
      have hyg : YG P ops o a w (F.getD i (fun _ _ => True)) := (YG.of_list hod (by rw [virt_size]; exact hds) hst).congr (eval_congr (fun cs b => Region.noSelect_spec hsel i o cs b ho) hslot) (wanted_congr hslot)
      refine wpOp_of_YG ho hyg fun v w' hv hb => ?_
      have hcount : ((List.range n).filter fun j => !(done.setIfInBounds i true).getD j false).length = m := by
        have h1 : i ∈ (List.range n).filter fun j => !done.getD j false := List.mem_filter.2 ⟨List.mem_range.2 hin, by rw [getD_both hun]; rfl⟩
        have h2 : ((List.range n).filter fun j => !(done.setIfInBounds i true).getD j false) = ((List.range n).filter fun j => !done.getD j false).erase i := by
          rw [List.Nodup.erase_eq_filter ((List.nodup_range).filter _), List.filter_filter]
          apply List.filter_congr
          intro j hj
          by_cases e : i = j
          · subst e
            have : i < done.size := by rw [G.inv.size]; omega
            simp [this]
          · rw [getD_set_ne false e]
            have : (j != i) = true := by simp; omega
            rw [this, Bool.true_and]
        rw [h2, List.length_erase_of_mem h1, hm]
        rfl
      refine ih _ _ _ ⟨G.inv.set hi hin, gr_below G.bel hb, ?_, ?_, fun j hj hdj => ?_, fun t ht => ?_⟩ hcount
      · rw [← G.size, hod]; simp [Act.put]
      · rw [← G.defers, hod]; rfl
      · by_cases e : i = j
        · subst e
          have : leftBy ops (a.put o.dst v) i = v := by
            have hlt : d < a.tmps.size := by rw [G.size]; exact hds
            simp [leftBy, hd', hod, Act.put, hlt]
          rw [this]
          exact hv
        · rw [getD_set_ne false e] at hdj
          have hl : leftBy ops (a.put o.dst v) j = leftBy ops a j := by
            obtain ⟨_, dj, _, _, hdj', _, _⟩ := hops j hj
            have hne : d ≠ dj := fun e' => e (by have := hdis j hj (by rw [hdj', e']); exact this.symm)
            simp [leftBy, hdj', hod, Act.put, Array.getElem?_setIfInBounds_ne hne]
          rw [hl]
          exact hmono j _ _ _ (G.fact j hj hdj) hb
      · have hself : (done.setIfInBounds i true).getD i false = true := by
          have : i < done.size := by rw [G.inv.size]; omega
          simp [this]
        have hne : d ≠ t := fun e => ht i hin hself (by rw [hd', e])
        rw [hod]
        have h1 : (a.put (some d) v).tmps[t]? = a.tmps[t]? := by simp [Act.put, Array.getElem?_setIfInBounds_ne hne]
        rw [h1]
        exact G.rest t fun j hj hdj => ht j hj (getD_set_true hdj)

/-- A region that draws its order, the first n operations growing; p may come behind the next one. -/
theorem wp_region_growP {id : Nat} {Q : Exit → Act → World → Prop} {a : Act} {w : World} {l : List Oper} (n p : Nat) (D : List (List Nat)) (F : List (Value → World → Prop)) (hm : P.follows .mixedOrders = true) (hB : growPB .any l.toArray n p a.tmps.size D = true) (hF : ∀ f ∈ F, MonoG f)
    (hstep : stepsG P l.toArray w.drew a D F 0 (l.take n))
    (htail : ∀ (w' : World) (vs : Nat → Value), Below w.drew.heap.size w.drew w' → (∀ i, i < n → F.getD i (fun _ _ => True) (vs i) w') → wpList P l.toArray Q (opsAt l.toArray (List.range' n (l.toArray.size - n))) (virt l.toArray vs (List.range n) a) w')
    (hlate : ∀ (w' : World) (vs : Nat → Value), Below w.drew.heap.size w.drew w' → (∀ i, i < n → i ≠ p → F.getD i (fun _ _ => True) (vs i) w') →
      wpList P l.toArray Q (opsAt l.toArray (p :: List.range' n (l.toArray.size - n))) (virt l.toArray vs ((List.range n).filter (· ≠ p)) a) w' ∧ wpList P l.toArray Q (opsAt l.toArray (n :: p :: List.range' (n + 1) (l.toArray.size - n - 1))) (virt l.toArray vs ((List.range n).filter (· ≠ p)) a) w') :
    (Code.region id l.toArray true).wp P Q a w := by
  refine wp_region_any hm ?_
  have hB' := hB
  simp only [growPB, Bool.and_eq_true, decide_eq_true_eq] at hB'
  have hn : n < l.toArray.size := hB'.1.1.1.1.1.1.1.2
  have h := wpAny_growP (P := P) (Q := Q) hB hF (by simpa using hstep) htail hlate n (Array.replicate l.toArray.size false) a w.drew
    ⟨⟨by simp, fun j oj _ hl => (by rw [getD_replicate_false] at hl; cases hl), fun t _ ht => getD_in (by simpa using ht) (getD_replicate_false _ _)⟩, gr_refl _, rfl, rfl, fun i _ hd => (by rw [getD_replicate_false] at hd; cases hd), fun t _ => rfl⟩
    (by
      have : (List.range n).filter (fun i => !(Array.replicate l.toArray.size false).getD i false) = List.range n := List.filter_eq_self.2 fun i _ => by rw [getD_replicate_false]; rfl
      rw [this, List.length_range])
  have e : n + (l.toArray.size - n) = l.toArray.size := by omega
  rw [e] at h
  exact h
end
end Go.Proofs.YtneegcnidoopmaaDoor
