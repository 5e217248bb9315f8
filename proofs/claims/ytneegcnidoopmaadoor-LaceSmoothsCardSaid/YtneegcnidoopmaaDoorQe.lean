/- A region that draws its order: n operations that only read or call functions that leave old memory alone, then one that makes a block, then others in a forced order; the one that makes a block may come up ahead of some of the first ones. One walk in the text's order serves every order. No conditions but the closed Bools on the region. -/
import Derived.Test.YtneegcnidoopmaaDoorQt
namespace Go.Proofs.YtneegcnidoopmaaDoor
open Go.RowKit

section
variable {P : Program} {ops : Array Oper} {md : Region.Mode} {w0 : World}

/-- The operation hands back v in every world that has grown out of w0, and lets that world grow. -/
def YieldsS (P : Program) (ops : Array Oper) (w0 : World) (o : Oper) (v : Value) (a : Act) : Prop :=
  (Region.wanted o (yielded ops a.tmps) = true ∧ ∀ w, Below w0.heap.size w0 w → o.quietAt P a (fun w' => Below w.heap.size w w') w v) ∨ (Region.wanted o (yielded ops a.tmps) = false ∧ v = undef)
theorem YieldsS.same {o : Oper} {v : Value} {a a' : Act} (h : YieldsS P ops w0 o v a) (he : execOp a'.eval o = execOp a.eval o) (hw : Region.wanted o (yielded ops a'.tmps) = Region.wanted o (yielded ops a.tmps)) : YieldsS P ops w0 o v a' := by
  unfold YieldsS Oper.quietAt at *
  rw [he, hw]
  exact h
def stepS (P : Program) (ops : Array Oper) (w0 : World) (i : Nat) (K : Act → Prop) (a : Act) : Prop := ∃ o, ops[i]? = some o ∧ ∃ v, YieldsS P ops w0 o v a ∧ K (a.put o.dst v)
theorem stepS_put {j : Nat} {oi oj : Oper} {v : Value} (hj : ops[j]? = some oj) (hap : oi.apart ops oj = true) (hsi : ∀ cs b, oi.op ≠ .select cs b) (hsj : ∀ cs b, oj.op ≠ .select cs b) {K : Act → Prop} {a : Act}
    (hy : YieldsS P ops w0 oi v a) (h : stepS P ops w0 j K (a.put oi.dst v)) : stepS P ops w0 j (fun a' => YieldsS P ops w0 oi v a' ∧ K (a'.put oi.dst v)) a := by
  obtain ⟨o, ho, u, hu, hK⟩ := h
  obtain rfl : oj = o := Option.some.inj (hj.symm.trans ho)
  obtain ⟨h1, h2, h3⟩ := Oper.apart_spec hap
  refine ⟨oj, hj, u, hu.same (execOp_put oj hsj a oi.dst v h1).symm (wanted_put oj a oi.dst v h1).symm, hy.same (execOp_put oi hsi a oj.dst u h3) (wanted_put oi a oj.dst u h3), ?_⟩
  rw [← Act.put_comm a v u h2]
  exact hK

/-- The operation that makes a block: in this world it hands back u and a world that has grown. -/
def stepE (P : Program) (ops : Array Oper) (j : Nat) (K : Act → World → Prop) (a : Act) (w : World) : Prop :=
  ∃ o, ops[j]? = some o ∧ o.guard = none ∧ ∃ u w', (execOp a.eval o).run P w = .ok (.value u) w' ∧ Below w.heap.size w w' ∧ K (a.put o.dst u) w'

/-- Whatever order the first n + 1 operations take. -/
def headE (P : Program) (md : Region.Mode) (ops : Array Oper) (w0 : World) (n : Nat) (L : Array Bool → Act → World → Prop) : Nat → Array Bool → Act → World → Prop
  | 0, done, a, w => ∀ w', Below w.heap.size w w' → L done a w'
  | f + 1, done, a, w => Region.ready md ops done ≠ [] ∧ ∀ j ∈ Region.ready md ops done, j < n + 1 ∧
      if j < n then stepS P ops w0 j (fun a' => ∀ w', Below w.heap.size w w' → headE P md ops w0 n L f (done.setIfInBounds j true) a' w') a
      else ∀ w', Below w.heap.size w w' → stepE P ops j (fun a' w'' => headE P md ops w0 n L f (done.setIfInBounds j true) a' w'') a w'

theorem headE_mono {n : Nat} {L : Array Bool → Act → World → Prop} {f : Nat} {done : Array Bool} {a : Act} {w w' : World} (h : headE P md ops w0 n L f done a w) (hb : Below w.heap.size w w') : headE P md ops w0 n L f done a w' := by
  cases f with
  | zero => exact fun w'' hb' => h w'' (gr_below hb hb')
  | succ f =>
    refine ⟨h.1, fun j hj => ⟨(h.2 j hj).1, ?_⟩⟩
    have h2 := (h.2 j hj).2
    split
    · rename_i hjn
      rw [if_pos hjn] at h2
      obtain ⟨o, ho, v, hy, hK⟩ := h2
      exact ⟨o, ho, v, hy, fun w'' hb' => hK w'' (gr_below hb hb')⟩
    · rename_i hjn
      rw [if_neg hjn] at h2
      exact fun w'' hb' => h2 w'' (gr_below hb hb')

theorem wpAny_of_headE {n g : Nat} {L : Array Bool → Act → World → Prop} {Q' : Exit → Act → World → Prop} (hL : ∀ done a w, L done a w → wpAny P md ops Q' g done a w) (f : Nat) :
    ∀ (done : Array Bool) (a : Act) (w : World), Below w0.heap.size w0 w → headE P md ops w0 n L f done a w → wpAny P md ops Q' (f + g) done a w := by
  induction f with
  | zero => intro done a w _ h; rw [Nat.zero_add]; exact hL _ _ _ (h w (gr_refl w))
  | succ f ih =>
    intro done a w hw h
    rw [Nat.add_right_comm]
    refine ⟨fun e => absurd e h.1, fun j hj => ?_⟩
    have h2 := (h.2 j hj).2
    split at h2
    · obtain ⟨o, ho, v, hy, hK⟩ := h2
      unfold wpOp
      simp only [ho]
      rcases hy with ⟨hw1, hy⟩ | ⟨hw1, rfl⟩
      · rw [if_pos hw1]
        left
        have h3 := hy w hw
        unfold Oper.quietAt at h3
        unfold Oper.wp
        generalize (execOp a.eval o).run P w = r at *
        cases r with
        | ok nx w' =>
          cases nx <;> simp only [Oper.quietUpon] at h3 <;> simp only [Oper.upon]
          case value u => obtain ⟨rfl, rfl⟩ := h3; exact ih _ _ _ hw (hK _ (gr_refl _))
          case skip => obtain ⟨rfl, rfl⟩ := h3; exact ih _ _ _ hw (hK _ (gr_refl _))
          case enter fn args =>
            obtain ⟨rfl, hc⟩ := h3
            exact hc.mono fun e w'' ⟨he, hw''⟩ => by subst he; exact ih _ _ _ (gr_below hw hw'') (hK _ hw'')
        | halt x w' => simp only [Oper.quietUpon] at h3
      · rw [if_neg (by rw [hw1]; exact Bool.false_ne_true)]
        exact ih _ _ _ hw (hK _ (gr_refl _))
    · obtain ⟨o, ho, hg, u, w', hr, hb, hK⟩ := h2 w (gr_refl w)
      unfold wpOp
      simp only [ho]
      rw [if_pos (by simp [Region.wanted, hg])]
      left
      unfold Oper.wp
      rw [hr]
      exact ih _ _ _ (gr_below hw hb) hK

theorem headE_first {n i : Nat} {o : Oper} {v : Value} {L : Array Bool → Act → World → Prop} (hi : ops[i]? = some o) (hsel : ∀ (j : Nat) (o : Oper) cs b, ops[j]? = some o → o.op ≠ .select cs b)
    (hs : Region.sinkB md ops (n + 1) = true) (hc : Region.chainB md ops (n + 1) = true) (hn : n + 1 < ops.size) (hin : i < n)
    (hdone : ∀ done a w, L done a w → ∀ j ∈ Region.ready md ops done, n + 1 ≤ j) (f : Nat) :
    ∀ (done : Array Bool) (a : Act) (w : World), HeadInv md ops (n + 1) done →
      (∀ j oj, ops[j]? = some oj → j ≠ i → done.getD j true = false → (∀ e ∈ oj.after, Region.binds md e = true → e.on ≠ i) → o.apart ops oj = true) →
      i ∈ Region.ready md ops done → YieldsS P ops w0 o v a →
      headE P md ops w0 n L f (done.setIfInBounds i true) (a.put o.dst v) w → headE P md ops w0 n L (f + 1) done a w := by
  induction f with
  | zero =>
    intro done a w inv _ hr hy H
    have hun := (mem_ready.1 hr).1
    refine ⟨fun h => (by rw [h] at hr; cases hr), fun j hj => ?_⟩
    have hjn : j < n + 1 := Nat.lt_of_not_le fun h => tail_waits hs hc hn inv _ i rfl (by omega) hun j h hj
    refine ⟨hjn, ?_⟩
    rcases Nat.decEq j i with hji | hji
    · have := hdone _ _ _ (H w (gr_refl w)) j (ready_mono hj hji)
      omega
    · subst hji
      rw [if_pos hin]
      exact ⟨o, hi, v, hy, fun w' hb => headE_mono H hb⟩
  | succ f ih =>
    intro done a w inv hfree hr hy H
    have hun := (mem_ready.1 hr).1
    refine ⟨fun h => (by rw [h] at hr; cases hr), fun j hj => ?_⟩
    have hjn : j < n + 1 := Nat.lt_of_not_le fun h => tail_waits hs hc hn inv _ i rfl (by omega) hun j h hj
    refine ⟨hjn, ?_⟩
    rcases Nat.decEq j i with hji | hji
    · obtain ⟨hjun, oj, hoj, hall⟩ := mem_ready.1 hj
      have away : ∀ e ∈ oj.after, Region.binds md e = true → e.on ≠ i := by
        intro e he hb heq
        have h1 := hall e he hb
        rw [heq, getD_both hun] at h1
        cases h1
      have hap := hfree j oj hoj hji hjun away
      have hfree' : ∀ k ok, ops[k]? = some ok → k ≠ i → (done.setIfInBounds j true).getD k true = false → (∀ e ∈ ok.after, Region.binds md e = true → e.on ≠ i) → o.apart ops ok = true := by
        intro k ok hk hki hku hno
        refine hfree k ok hk hki ?_ hno
        rcases Nat.decEq j k with hjk | hjk
        · rwa [getD_set_ne true hjk] at hku
        · subst hjk; exact hjun
      have h2 := (H.2 j (ready_mono hj hji)).2
      split
      · rename_i hlt
        rw [if_pos hlt] at h2
        obtain ⟨oj', hoj', u, hu, hy', hK⟩ := stepS_put hoj hap (fun cs b => hsel i o cs b hi) (fun cs b => hsel j oj cs b hoj) hy h2
        refine ⟨oj', hoj', u, hu, fun w' hb => ih (done.setIfInBounds j true) _ w' (inv.set hj hjn) hfree' (ready_mono hr (Ne.symm hji)) hy' ?_⟩
        have := hK w' hb
        rwa [Array.setIfInBounds_comm _ _ hji]
      · rename_i hlt
        rw [if_neg hlt] at h2
        intro w' hb
        obtain ⟨oj', hoj', hg, u, w'', hrun, hb', hK⟩ := h2 w' hb
        obtain rfl : oj = oj' := Option.some.inj (hoj.symm.trans hoj')
        obtain ⟨a1, a2, a3⟩ := Oper.apart_spec hap
        refine ⟨oj, hoj, hg, u, w'', ?_, hb', ih (done.setIfInBounds j true) _ w'' (inv.set hj hjn) hfree' (ready_mono hr (Ne.symm hji)) (hy.same (execOp_put o (fun cs b => hsel i o cs b hi) a oj.dst u a3) (wanted_put o a oj.dst u a3)) ?_⟩
        · rwa [execOp_put oj (fun cs b => hsel j oj cs b hoj) a o.dst v a1] at hrun
        · rw [Array.setIfInBounds_comm _ _ hji, ← Act.put_comm a v u a2]
          exact hK
    · subst hji
      rw [if_pos hin]
      exact ⟨o, hi, v, hy, fun w' hb => headE_mono H hb⟩

/-- The first operations, in the text's order. -/
def lexS (P : Program) (ops : Array Oper) (w0 : World) (K : Act → Prop) : List Oper → Act → Prop
  | [], a => K a
  | o :: l, a => ∃ v, YieldsS P ops w0 o v a ∧ lexS P ops w0 K l (a.put o.dst v)

theorem lexS_mono {K K' : Act → Prop} (h : ∀ a, K a → K' a) : ∀ (l : List Oper) (a : Act), lexS P ops w0 K l a → lexS P ops w0 K' l a
  | [], a, hK => h a hK
  | _ :: l, _, ⟨v, hy, hK⟩ => ⟨v, hy, lexS_mono h l _ hK⟩

theorem headE_lex {n g : Nat} {T : Act → World → Prop} (hsel : Region.noSelect ops = true) (hs : Region.sinkB md ops (n + 1) = true) (hc : Region.chainB md ops (n + 1) = true) (hn : n + 1 < ops.size) {w : World} (l : List Oper) :
    ∀ (k : Nat) (done : Array Bool) (a : Act), (∀ j, j < l.length → l[j]? = ops[k + j]?) → k + l.length = n → HeadInv md ops (n + 1) done →
    Region.lexHead md ops (g + 1) l.length k done = true →
    lexS P ops w0 (fun a' => ∀ w', Below w.heap.size w w' → stepE P ops n (fun a'' w'' => ∀ w3, Below w''.heap.size w'' w3 → T a'' w3) a' w') l a →
    headE P md ops w0 n (fun done' a' w' => Region.seqB md ops g (n + 1) done' = true ∧ T a' w') (l.length + 1) done a w := by
  induction l with
  | nil =>
    intro k done a _ hk _ hB h
    obtain rfl : k = n := by simpa using hk
    simp only [List.length_nil, Region.lexHead, Region.seqB, Bool.and_eq_true, decide_eq_true_eq] at hB
    refine ⟨fun e => (by rw [hB.1] at e; cases e), fun j hj => ?_⟩
    rw [hB.1] at hj
    obtain rfl : j = k := by simpa using hj
    refine ⟨by omega, ?_⟩
    rw [if_neg (by omega)]
    intro w' hb
    obtain ⟨o, ho, hg, u, w'', hr, hb', hT⟩ := h w' hb
    exact ⟨o, ho, hg, u, w'', hr, hb', fun w3 hb3 => ⟨hB.2, hT w3 hb3⟩⟩
  | cons o l ih =>
    intro k done a hl hk inv hB h
    have h0 : ops[k]? = some o := by simpa using (hl 0 (by simp)).symm
    simp only [List.length_cons, Region.lexHead, Bool.and_eq_true] at hB
    have hkn : k < n := by simp only [List.length_cons] at hk; omega
    have hr : k ∈ Region.ready md ops done := by simpa using hB.1.1
    obtain ⟨v, hy, hK⟩ := h
    refine headE_first h0 (Region.noSelect_spec hsel) hs hc hn hkn (fun done' a' w' hL => seqB_ready hL.1) (l.length + 1) done a w inv (Region.free_spec h0 hB.1.2) hr hy ?_
    exact ih (k + 1) _ _ (fun j hj => by have := hl (j + 1) (by simp; omega); simpa [Nat.add_assoc, Nat.add_comm 1 j] using this) (by simp only [List.length_cons] at hk; omega) (inv.set hr (by omega)) hB.2 hK

/-! From walks over every grown world, all of which end in one frame. -/
def dstsB (l : List Oper) (m : Nat) : Bool := match l with
  | [] => true
  | o :: l => (match o.dst with | some d => decide (d < m) && l.all (fun o' => decide (o'.dst ≠ some d)) | none => false) && dstsB l m
theorem put_other {a : Act} {d : Nat} {dst : Option Tmp} {v : Value} (h : dst ≠ some d) : (a.put dst v).tmps[d]? = a.tmps[d]? := by
  cases dst with
  | none => rfl
  | some k => simp only [Act.put]; rw [Array.getElem?_setIfInBounds, if_neg (fun e => h (by rw [e]))]
theorem put_size {a : Act} {dst : Option Tmp} {v : Value} : (a.put dst v).tmps.size = a.tmps.size := by cases dst <;> simp [Act.put]
theorem final_slot {C : World → Prop} {a1 : Act} {d : Nat} (l : List Oper) : ∀ a, l.all (fun o' => decide (o'.dst ≠ some d)) = true → wpQuiet P ops C (fun a' => a' = a1) l a → a1.tmps[d]? = a.tmps[d]? := by
  induction l with
  | nil => intro a _ h; rw [← (show a = a1 from h)]
  | cons o l ih =>
    intro a hd h
    simp only [List.all_cons, Bool.and_eq_true, decide_eq_true_eq] at hd
    unfold wpQuiet at h
    split at h
    · obtain ⟨v, _, h2⟩ := h
      rw [ih _ hd.2 h2, put_other hd.1]
    · rw [ih _ hd.2 h, put_other hd.1]
theorem lexS_of_all {a1 : Act} {m : Nat} (l : List Oper) : ∀ a, a.tmps.size = m → dstsB l m = true → (∀ x : Ext w0, wpQuiet P ops (fun w' => ∃ y : Ext x.val, w' = y.val) (fun a' => a' = a1) l a) → lexS P ops w0 (fun a' => a' = a1) l a := by
  induction l with
  | nil => intro a _ _ h; exact h ⟨w0, gr_refl w0⟩
  | cons o l ih =>
    intro a hm hd h
    simp only [dstsB, Bool.and_eq_true] at hd
    obtain ⟨hd1, hd2⟩ := hd
    cases hdst : o.dst with
    | none => rw [hdst] at hd1; cases hd1
    | some d =>
      rw [hdst] at hd1
      simp only [Bool.and_eq_true, decide_eq_true_eq] at hd1
      cases hw : Region.wanted o (yielded ops a.tmps) with
      | false =>
        refine ⟨undef, .inr ⟨hw, rfl⟩, ih _ (by rw [put_size, hm]) hd2 fun x => ?_⟩
        have := h x
        unfold wpQuiet at this
        rwa [if_neg (by rw [hw]; exact Bool.false_ne_true)] at this
      | true =>
        have each : ∀ x : Ext w0, (∀ w, (∃ y : Ext x.val, w = y.val) → o.quietAt P a (fun w' => ∃ y : Ext x.val, w' = y.val) w (a1.tmps.getD d undef)) ∧ wpQuiet P ops (fun w' => ∃ y : Ext x.val, w' = y.val) (fun a' => a' = a1) l (a.put o.dst (a1.tmps.getD d undef)) := by
          intro x
          have hx := h x
          unfold wpQuiet at hx
          rw [if_pos hw] at hx
          obtain ⟨v, h1, h2⟩ := hx
          have e := final_slot l _ hd1.2 h2
          rw [hdst] at e
          simp only [Act.put] at e
          rw [Array.getElem?_setIfInBounds, if_pos rfl, if_pos (by rw [hm]; exact hd1.1)] at e
          have ev : a1.tmps.getD d undef = v := by simp [e]
          rw [ev]
          exact ⟨h1, h2⟩
        refine ⟨a1.tmps.getD d undef, .inl ⟨hw, fun w hb => ?_⟩, ih _ (by rw [put_size, hm]) hd2 fun x => (each x).2⟩
        have h1 := (each ⟨w, hb⟩).1 w ⟨⟨w, gr_refl w⟩, rfl⟩
        unfold Oper.quietAt at *
        generalize (execOp a.eval o).run P w = r at *
        cases r with
        | ok nx w' =>
          cases nx <;> simp only [Oper.quietUpon] at h1 ⊢
          case value u => exact h1
          case skip => exact h1
          case enter fn args => exact ⟨h1.1, h1.2.mono fun e w'' ⟨he, y, hy⟩ => ⟨he, by rw [hy]; exact y.below⟩⟩
        | halt x w' => simp only [Oper.quietUpon] at h1

def earlyB (md : Region.Mode) (ops : Array Oper) (n : Nat) : Bool :=
  Region.noSelect ops && decide (n + 1 < ops.size) && Region.sinkB md ops (n + 1) && Region.chainB md ops (n + 1) && Region.lexHead md ops (ops.size - (n + 1) + 1) n 0 (Array.replicate ops.size false)

theorem wp_region_early {id : Nat} {Q : Exit → Act → World → Prop} {a : Act} {w : World} {l : List Oper} (n : Nat) (hm : P.follows .mixedOrders = true) (hB : earlyB .any l.toArray n = true) (hd : dstsB (l.take n) a.tmps.size = true)
    (a1 : Act) (h : ∀ x : Ext w, wpQuiet P l.toArray (fun w' => ∃ y : Ext x.val, w' = y.val) (fun a' => a' = a1) (l.take n) a)
    (o : Oper) (ho : l[n]? = some o) (hg : o.guard = none)
    (t : ∀ x : Ext w, ∃ u w', (execOp a1.eval o).run P x.val = .ok (.value u) w' ∧ Below x.val.heap.size x.val w' ∧ ∀ y : Ext w', wpList P l.toArray Q (l.drop (n + 1)) (a1.put o.dst u) y.val) :
    (Code.region id l.toArray true).wp P Q a w := by
  simp only [earlyB, Bool.and_eq_true, decide_eq_true_eq] at hB
  obtain ⟨⟨⟨⟨hsel, hn⟩, hs⟩, hc⟩, hlex⟩ := hB
  have hn' : n + 1 < l.length := by simpa using hn
  have htl : (l.take n).length = n := by simp; omega
  have hdl : (l.drop (n + 1)).length = l.toArray.size - (n + 1) := by simp
  have hdw : Below w.heap.size w { w with drawn := w.drawn + 1 } := (gr_refl w).drew
  have HS := lexS_of_all (w0 := w) (a1 := a1) (l.take n) a rfl hd h
  have H := headE_lex (md := .any) (g := l.toArray.size - (n + 1)) (T := fun a' w' => wpList P l.toArray Q (l.drop (n + 1)) a' w') (w0 := w) (w := { w with drawn := w.drawn + 1 }) hsel hs hc hn (l.take n) 0 (Array.replicate l.toArray.size false) a (fun j hj => by
    rw [htl] at hj
    simp [hj]) (by simpa using htl)
    ⟨by simp, fun j oj _ hl => (by rw [getD_replicate_false] at hl; cases hl), fun t _ ht => getD_in (by simpa using ht) (getD_replicate_false _ _)⟩ (by rw [htl]; exact hlex) (lexS_mono (fun a' e w' hb => by
      have e' : a' = a1 := e
      subst e'
      obtain ⟨u, w'', hr, hb', ht⟩ := t ⟨w', gr_below hdw hb⟩
      exact ⟨o, by simpa using ho, hg, u, w'', hr, hb', fun w3 hb3 => ht ⟨w3, hb3⟩⟩) _ _ HS)
  refine wp_region_any hm ?_
  have key := wpAny_of_headE (Q' := Q) (g := l.toArray.size - (n + 1)) (fun done a' w' hL => by
    have := wpAny_of_seq (md := .any) (Q' := Q) (l.drop (n + 1)) (n + 1) done a' w' (fun j => by simp [List.getElem?_drop]) (by rw [hdl]; exact hL.1) hL.2
    rwa [hdl] at this) _ _ _ { w with drawn := w.drawn + 1 } hdw H
  rw [htl, show n + 1 + (l.toArray.size - (n + 1)) = l.toArray.size by omega] at key
  exact key
theorem wp_region_earlyX {id : Nat} {Q : Exit → Act → World → Prop} {a : Act} {w : World} {l : List Oper} (n : Nat) (hm : P.follows .mixedOrders = true) (hB : earlyB .any l.toArray n = true) (hd : dstsB (l.take n) a.tmps.size = true)
    (o : Oper) (ho : l[n]? = some o) (hg : o.guard = none)
    (h : ∃ a1 : Act, (∀ x : Ext w, wpQuiet P l.toArray (fun w' => ∃ y : Ext x.val, w' = y.val) (fun a' => a' = a1) (l.take n) a) ∧
      ∀ x : Ext w, ∃ u w', (execOp a1.eval o).run P x.val = .ok (.value u) w' ∧ Below x.val.heap.size x.val w' ∧ ∀ y : Ext w', wpList P l.toArray Q (l.drop (n + 1)) (a1.put o.dst u) y.val) :
    (Code.region id l.toArray true).wp P Q a w := by
  obtain ⟨a1, h1, h2⟩ := h
  exact wp_region_early n hm hB hd a1 h1 o ho hg h2
end
end Go.Proofs.YtneegcnidoopmaaDoor
