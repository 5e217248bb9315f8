/- How the arguments of a law are read as numbers, and how a law's row follows from what its call does. No conditions but the closed facts named. -/
import Derived.Test.YtneegcnidoopmaaDoorRows
import Derived.Test.YtneegcnidoopmaaDoorQt
import Derived.ProofKit
import Derived.OpenShut
import Derived.Deep.Slices
namespace Go.Proofs.YtneegcnidoopmaaDoor
open Go.ChangeShapes Go.WideShapes Go.ChangeAt Go.RowKit

theorem maxLen_small : maxLen ≤ 9223372036854775807 := by unfold maxLen; omega

/-! ### Values made of whole numbers alone -/
/-- The kind of the whole number in cell j of a value of type t. -/
def kindAt (P : Program) : Nat → TypeId → Nat → Option IntKind
  | 0, _, _ => none
  | n + 1, t, j =>
    match P.underlying t with
    | some (.int k) => if j = 0 then some k else none
    | some (.struct fs) => match fs.toList.find? (fun f => decide (f.offset ≤ j) && decide (j < f.offset + P.cellsOf f.type)) with
      | some f => kindAt P n f.type (j - f.offset)
      | none => none
    | some (.array m e) => if j < m * P.cellsOf e then kindAt P n e (j % P.cellsOf e) else none
    | _ => none

section
variable {H : Type} {enc : TypeId × Value → H} {P : Program} {w : World} {base : Nat} {spare : Nat → Bool} {held : Bool}

theorem trod_kind : ∀ (n : Nat) {t : TypeId} {j : Nat} {k : IntKind} {fuel : Nat} {cs : List Value} {x : DataW H × List MemPlace}, kindAt P n t j = some k → DataW.trod enc P w base spare held fuel t cs = some x →
    ∃ z, cs[j]? = some (.int k z) ∧ (Lit.int k z).wf = true
  | 0, _, _, _, _, _, _, hk, _ => by simp [kindAt] at hk
  | n + 1, t, j, k, fuel, cs, x, hk, h => by
    unfold kindAt at hk
    split at hk
    · rename_i k' ht
      split at hk
      · rename_i hj
        subst hj
        injection hk with hk
        subst hk
        obtain ⟨z, rfl, _, hw⟩ := DataW.trod_int ht h
        exact ⟨z, rfl, hw⟩
      · cases hk
    · rename_i fs ht
      split at hk
      · rename_i f hf
        obtain ⟨xs, m, _, _, hl, hxl, hfs⟩ := DataW.trod_struct ht h
        have hmem := List.mem_of_find?_eq_some hf
        have hp := List.find?_some hf
        simp only [Bool.and_eq_true, decide_eq_true_eq] at hp
        obtain ⟨i, hi, hfi⟩ := List.mem_iff_getElem.1 hmem
        have hfi' : fs[i]? = some f := by rw [← Array.getElem?_toList, List.getElem?_eq_getElem hi, hfi]
        have hi2 := hfs i f hfi'
        have hxi : i < xs.length := by rw [hxl]; simpa using hi
        rw [List.getElem?_eq_getElem hxi] at hi2
        obtain ⟨z, hz, hw⟩ := trod_kind n hk hi2
        refine ⟨z, ?_, hw⟩
        rw [List.getElem?_take, if_pos (by omega), List.getElem?_drop, show f.offset + (j - f.offset) = j by omega] at hz
        exact hz
      · cases hk
    · rename_i m e ht
      split at hk
      · rename_i hj
        obtain ⟨xs, m', _, _, hl, hxl, hfs⟩ := DataW.trod_array ht h
        have he0 : 0 < P.cellsOf e := Nat.pos_of_ne_zero fun e0 => by rw [e0, Nat.mul_zero] at hj; omega
        have hq : j / P.cellsOf e < m := (Nat.div_lt_iff_lt_mul he0).2 hj
        have hi2 := hfs (j / P.cellsOf e) hq
        rw [List.getElem?_eq_getElem (by omega)] at hi2
        obtain ⟨z, hz, hw⟩ := trod_kind n hk hi2
        refine ⟨z, ?_, hw⟩
        rw [List.getElem?_take, if_pos (Nat.mod_lt _ he0), List.getElem?_drop, Nat.mul_comm, Nat.div_add_mod] at hz
        exact hz
      · cases hk
    · cases hk

/-- A slice of such values. -/
theorem open_flat {t e : TypeId} {fuel : Nat} {cs : List Value} {x : DataW H × List MemPlace} (n sz : Nat) (ks : Nat → IntKind) (ht : P.underlying t = some (.slice e)) (hsz : P.cellsOf e = sz) (hks : ∀ j, j < sz → kindAt P n e j = some (ks j)) (hs0 : 0 < sz)
    (h : DataW.trod enc P w base spare held fuel t cs = some x) :
    ∃ (A : Option Addr) (len cap : Nat) (V : Nat → Nat → Int), cs = [.slice A len cap] ∧ len ≤ cap ∧ cap ≤ maxLen ∧ (∀ i j, i < len → j < sz → (Lit.int (ks j) (V i j)).wf = true) ∧
      (0 < len → ∃ b off, A = some ⟨b, off, none⟩ ∧ ∀ i j, i < len → j < sz → w.cell? ⟨b, off + (i * sz + j), none⟩ = some (.int (ks j) (V i j))) := by
  rcases Deep.open_slice ht h with ⟨rfl, rfl⟩ | ⟨a, len, cap, m, n', D, Pl, rfl, hb, hl, hm, hmm, rfl, hx⟩
  · exact ⟨none, 0, 0, fun _ _ => 0, rfl, Nat.le_refl _, Nat.zero_le _, fun i j hi => by omega, fun h0 => by omega⟩
  · have hlm : len ≤ m := by rw [hmm]; split <;> omega
    have each : ∀ i, i < len → ∃ v : Nat → Int, ∀ j, j < sz → w.cell? (a.add (i * sz + j)) = some (.int (ks j) (v j)) ∧ (Lit.int (ks j) (v j)).wf = true := by
      intro i hi
      obtain ⟨cs', h1, h2⟩ := hx i (by omega)
      rw [hsz] at h1
      obtain ⟨_, hlen, hcell⟩ := World.cells?_some h1
      refine Deep.choose_lt (n := sz) (p := fun j z => w.cell? (a.add (i * sz + j)) = some (.int (ks j) z) ∧ (Lit.int (ks j) z).wf = true) fun j hj => ?_
      obtain ⟨z, hz, hw⟩ := trod_kind n (hks j hj) h2
      exact ⟨z, by rw [← Deep.add_add, hcell j hj, hz], hw⟩
    obtain ⟨V, hV⟩ := Deep.choose_lt (α := Nat → Int) (n := len) each
    refine ⟨some a, len, cap, V, rfl, hl, hm, fun i j hi hj => (hV i hi j hj).2, fun h0 => ?_⟩
    have hs : a.spot = none := by
      have h1 := (hV 0 h0 0 hs0).1
      rw [Nat.zero_mul, Nat.zero_add] at h1
      have : a.add 0 = a := by unfold Addr.add; simp
      rw [this] at h1
      cases hsp : a.spot with
      | none => rfl
      | some q =>
        exfalso
        unfold World.cell? at h1
        split at h1
        · simp [hsp] at h1
        · cases h1
    obtain ⟨b, off, spot⟩ := a
    simp only at hs
    subst hs
    refine ⟨b, off, rfl, fun i j hi hj => ?_⟩
    have := (hV i hi j hj).1
    unfold Addr.add at this
    split at this
    · rename_i h00; rw [h00]; exact this
    · exact this

/-- A value of such a type: its cells. -/
theorem open_flat_val {t : TypeId} {v : Value} {d : DataW H} {ps : List MemPlace} (n sz : Nat) (ks : Nat → IntKind) (hc : 2 ≤ sz) (hlen : ∀ (fuel : Nat) (cs : List Value) (x : DataW H × List MemPlace), DataW.trod enc P w base spare held fuel t cs = some x → cs.length = sz)
    (hks : ∀ j, j < sz → kindAt P n t j = some (ks j)) (h : DataW.Trod enc P w base spare held t v d ps) :
    ∃ z : Nat → Int, v = .agg ((List.range sz).map fun j => Value.int (ks j) (z j)).toArray ∧ ∀ j, j < sz → (Lit.int (ks j) (z j)).wf = true := by
  obtain ⟨fuel, hf⟩ := h
  have hl := hlen _ _ _ hf
  obtain ⟨z, hz⟩ := Deep.choose_lt (α := Int) (n := sz) (p := fun j z => v.cells.toList[j]? = some (.int (ks j) z) ∧ (Lit.int (ks j) z).wf = true) fun j hj => trod_kind n (hks j hj) hf
  refine ⟨z, ?_, fun j hj => (hz j hj).2⟩
  have hv : v.cells.toList = (List.range sz).map fun j => Value.int (ks j) (z j) := by
    apply List.ext_getElem?
    intro j
    by_cases hj : j < sz
    · rw [(hz j hj).1]; simp [hj]
    · rw [List.getElem?_eq_none (by omega), List.getElem?_eq_none (by simp; omega)]
  cases v with
  | agg cs => rw [← hv]; simp [Value.cells]
  | _ => simp [Value.cells] at hl; omega
theorem len_struct {t : TypeId} {fs : Array Field} {sz : Nat} (ht : P.underlying t = some (.struct fs)) (hsz : P.cellsOf t = sz) : ∀ (fuel : Nat) (cs : List Value) (x : DataW H × List MemPlace), DataW.trod enc P w base spare held fuel t cs = some x → cs.length = sz := fun _ _ _ h => by
  obtain ⟨_, _, _, _, hl, _⟩ := DataW.trod_struct ht h
  rw [hl, hsz]
theorem len_array {t e : TypeId} {m sz : Nat} (ht : P.underlying t = some (.array m e)) (hsz : P.cellsOf t = sz) : ∀ (fuel : Nat) (cs : List Value) (x : DataW H × List MemPlace), DataW.trod enc P w base spare held fuel t cs = some x → cs.length = sz := fun _ _ _ h => by
  obtain ⟨_, _, _, _, hl, _⟩ := DataW.trod_array ht h
  rw [hl, hsz]

/-! ### A law's row -/
theorem trodAll_below {W W' : World} (hl : laidOutB P = true) (hb : Below W.heap.size W W') : ∀ {ts : List TypeId} {vs : List Value} {ds : List (DataW H)} {ps : List MemPlace}, ts.all (fun t => P.readableRec t && decide (t < P.types.size)) = true →
    DataW.TrodAll enc P W 0 (fun _ => true) true ts vs ds ps → (∀ x ∈ ps, x.block < W.heap.size) → DataW.TrodAll enc P W' 0 (fun b => decide (b < W.heap.size)) true ts vs ds ps
  | [], [], [], _, _, h, _ => h
  | t :: ts, v :: vs, d :: ds, ps, ht, ⟨p, q, h1, h2, e⟩, hlt => by
    simp only [List.all_cons, Bool.and_eq_true, decide_eq_true_eq] at ht
    subst e
    exact ⟨p, q, Below.trod hl ht.1.1 ht.1.2 h1 hb (fun x hx => hlt x (List.mem_append_left _ hx)), trodAll_below hl hb ht.2 h2 (fun x hx => hlt x (List.mem_append_right _ hx)), rfl⟩
end

/-- A law: whatever the input, its call answers true and leaves all that was there as it was. -/
theorem law_lift {H : Type} {enc : TypeId × Value → H} {C : Checked} {os : Os} {f : FuncId} {fn : Func} {s : ChangeSpec} {tb : TypeId}
    (own : ownKnob C.prog.godebug = none) (started : os.Started) (noInit : C.prog.inits.idxOf? f = none) (hfn : C.prog.funcs[f]? = some fn)
    (witness : ∃ (w : World) (tape : Tape) (i : Input), w.os = os ∧ (w.forCall tape i).Shaped C.prog ∧ i.vars = [] ∧ Input.okWide C.prog (w.forCall tape i) .any w.heap.size f i ∧
      s.pre6 enc C.prog fn [] false (w.forCall tape i).memory i.args ∧ ({} : Assume).holds C.prog (lone (Frame.enter C.prog f i.args .normal) [] (w.forCall tape i)))
    (hres : fn.resultTypes = #[tb]) (htb : C.prog.underlying tb = some .bool) (hvars : s.vars = []) (hl : laidOutB C.prog = true)
    (hts : fn.params.toList.all (fun t => C.prog.readableRec t && decide (t < C.prog.types.size)) = true)
    (hspec : ∀ ds : List (DataW H), ds.length = fn.params.size → (s.fn H (ds ++ [])).results = [.lit (.bool true)] ∧ (s.fn H (ds ++ [])).args = ds ∧ (s.fn H (ds ++ [])).vars = [])
    (calls : ∀ (W : World) (base : Nat) (args : Array Value) (ds : List (DataW H)) (p : List MemPlace), (∀ (j : Nat) t v, fn.params[j]? = some t → args[j]? = some v → Value.okWide C.prog W .any base t v) → DataW.TrodAll enc C.prog W 0 (fun _ => true) true fn.params.toList args.toList ds p →
      Calls C.prog f args W fun e W' => e = .returned (.bool true) ∧ Grew W W') :
    ReturnsInHanded {} C os f .any (s.pre6 enc C.prog fn [] false) (s.post enc C.prog fn false true false false) := by
  refine returnsInHanded_of_change own started noInit hfn witness ?_
  intro W base args ds gs before hval hW _ _
  have hW' := hW
  obtain ⟨p, q, hA, hV, rfl, hfz, hnd⟩ := hW
  rw [hvars] at hV
  obtain ⟨rfl, rfl⟩ := trodVars_none hV
  have hlen : ∀ {ts : List TypeId} {vs : List Value} {ds : List (DataW H)} {ps : List MemPlace}, DataW.TrodAll enc C.prog W 0 (fun _ => true) true ts vs ds ps → ds.length = ts.length := by
    intro ts
    induction ts with
    | nil => intro vs ds ps h; obtain ⟨_, rfl, _⟩ := trodAll_nil h; rfl
    | cons t ts ih => intro vs ds ps h; obtain ⟨_, _, _, _, _, _, _, rfl, _, _, h2⟩ := trodAll_cons h; simp [ih h2]
  obtain ⟨s1, s2, s3⟩ := hspec ds (by rw [hlen hA]; simp)
  refine (calls W base args ds p hval hA).mono fun e W' ⟨he, hg⟩ => ?_
  have hb := hg.out
  refine ⟨_, he, ds, [], p ++ [], [], p, [], hW', ?_, ?_, ?_, hb.frame _, fun h => by cases h⟩
  · rw [s1, hres]
    exact trodAll_mk1 (shut_bool htb _)
  · rw [s2]
    exact trodAll_below hl hb hts hA (fun x hx => hW'.lt x (List.mem_append_left _ hx))
  · rw [s3, hvars]
    rfl
end Go.Proofs.YtneegcnidoopmaaDoor
