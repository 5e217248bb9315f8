/- LaceFlat: the walk. Conditions: the rows lie behind their slices; the sizes named; the table of taps is as laid. -/
import Derived.Test.YtneegcnidoopmaaDoorLo
import Derived.Test.YtneegcnidoopmaaDoorSf
import Derived.Deep.DeepCutAuto
import Derived.Deep.CutBlock
namespace Go.Proofs.YtneegcnidoopmaaDoor
open Go.RowKit

theorem heap_setCell_same {w : World} {b o : Nat} {c : Array Value} {T : TypeId} {v : Value} (h : w.heap[b]? = some (Obj.cells c T (0, 0))) : (w.setCell ⟨b, o, none⟩ v).heap[b]? = some (Obj.cells (c.setIfInBounds o v) T (0, 0)) := (Blk.set (⟨h⟩ : Blk w b c T) o v).heap
theorem TypA.setAny {w : World} {A : Option Addr} {T : TypeId} {b o : Nat} (h : TypA w A T) (v : Value) : TypA (w.setCell ⟨b, o, none⟩ v) A T := fun a ha => by
  obtain ⟨c, e⟩ := h a ha
  by_cases hb : a.block = b
  · subst hb
    exact ⟨_, heap_setCell_same e⟩
  · exact ⟨c, (Below.heap_setCell _ _ _ _ hb).trans e⟩
theorem TypA.frozen {w : World} {b off : Nat} {T : TypeId} (h : TypA w (some ⟨b, off, none⟩) T) (o : Nat) : w.frozen? ⟨b, o, none⟩ = false := by
  obtain ⟨c, e⟩ := h _ rfl
  exact (⟨e⟩ : Blk w b c T).frozen o
theorem TypA.lt {w : World} {b off : Nat} {T : TypeId} (h : TypA w (some ⟨b, off, none⟩) T) : b < w.heap.size := by
  obtain ⟨c, e⟩ := h _ rfl
  exact (⟨e⟩ : Blk w b c T).lt
theorem TypA.ne_blk {w : World} {b off g : Nat} {T T2 : TypeId} {c : Array Value} (h : TypA w (some ⟨b, off, none⟩) T) (hT : T ≠ T2) (hb : Blk w g c T2) : g ≠ b := by
  obtain ⟨c', e⟩ := h _ rfl
  rintro rfl
  have h2 := hb.heap
  rw [show w.heap[g]? = _ from e] at h2
  injection h2 with h2
  injection h2 with _ h2
  exact hT h2
theorem TypA.apart {w : World} {A : Option Addr} {T T2 : TypeId} {b off : Nat} (h : TypA w A T) (h2 : TypA w (some ⟨b, off, none⟩) T2) (hT : T ≠ T2) : NotIn A b := by
  obtain ⟨c, e⟩ := h2 _ rfl
  exact h.notIn hT (⟨e⟩ : Blk w b c T2)
theorem RowI.put {w : World} {v : Value} {T T2 : TypeId} {n : Nat} {F : Nat → Int} {b off o : Nat} (h : RowI w v T n F) (h2 : TypA w (some ⟨b, off, none⟩) T2) (hT : T ≠ T2) (x : Value) : RowI (w.setCell ⟨b, o, none⟩ x) v T n F := by
  obtain ⟨A, cap, e, hc, ht⟩ := h
  refine ⟨A, cap, e, fun hn => ?_, fun hn => (ht hn).setAny x⟩
  have hne := (ht hn).apart h2 hT
  obtain ⟨b', off', rfl, hcell⟩ := hc hn
  exact ⟨b', off', rfl, fun i hi => (World.cell?_of_block (a := ⟨b', _, none⟩) (Below.heap_setCell _ _ _ _ (hne _ rfl))).trans (hcell i hi)⟩
theorem RowH.put {w : World} {v : Value} {T T2 : TypeId} {n : Nat} {R G B : Nat → Int} {b off o : Nat} (h : RowH w v T n R G B) (h2 : TypA w (some ⟨b, off, none⟩) T2) (hT : T ≠ T2) (x : Value) : RowH (w.setCell ⟨b, o, none⟩ x) v T n R G B := by
  obtain ⟨A, cap, e, hc, ht⟩ := h
  refine ⟨A, cap, e, fun hn => ?_, fun hn => (ht hn).setAny x⟩
  have hne := (ht hn).apart h2 hT
  obtain ⟨b', off', rfl, hcell⟩ := hc hn
  exact ⟨b', off', rfl, fun i hi => ⟨(World.cell?_of_block (a := ⟨b', _, none⟩) (Below.heap_setCell _ _ _ _ (hne _ rfl))).trans (hcell i hi).1, (World.cell?_of_block (a := ⟨b', _, none⟩) (Below.heap_setCell _ _ _ _ (hne _ rfl))).trans (hcell i hi).2.1, (World.cell?_of_block (a := ⟨b', _, none⟩) (Below.heap_setCell _ _ _ _ (hne _ rfl))).trans (hcell i hi).2.2⟩⟩
/-- The rows beside the lights'. -/
structure Rows4 (w : World) (n : Nat) (D NX NY NZ S F : Nat → Int) (vD vN vS vF : Value) : Prop where
  d : RowI w vD 56 n D
  nv : RowH w vN 64 n NX NY NZ
  s : RowI w vS 3 n S
  f : RowI w vF 3 n F
theorem Rows4.below {w w1 : World} {n : Nat} {D NX NY NZ S F : Nat → Int} {vD vN vS vF : Value} (h : Rows4 w n D NX NY NZ S F vD vN vS vF) (hb : Below w.heap.size w w1) : Rows4 w1 n D NX NY NZ S F vD vN vS vF := ⟨h.d.below hb, h.nv.below hb, h.s.below hb, h.f.below hb⟩
theorem Rows4.put {w : World} {n : Nat} {D NX NY NZ S F : Nat → Int} {vD vN vS vF : Value} {b off o : Nat} (h : Rows4 w n D NX NY NZ S F vD vN vS vF) (h2 : TypA w (some ⟨b, off, none⟩) 58) (x : Value) : Rows4 (w.setCell ⟨b, o, none⟩ x) n D NX NY NZ S F vD vN vS vF :=
  ⟨h.d.put h2 (by decide) x, h.nv.put h2 (by decide) x, h.s.put h2 (by decide) x, h.f.put h2 (by decide) x⟩
theorem RowI.cellsI {w : World} {A : Option Addr} {c : Nat} {T n : Nat} {F : Nat → Int} (h : RowI w (.slice A n c) T n F) : CellsI w A n F := by
  obtain ⟨A', cap, e, hc, _⟩ := h
  injection e with e1
  subst e1
  exact hc
theorem RowH.cellsH {w : World} {A : Option Addr} {c : Nat} {T n : Nat} {R G B : Nat → Int} (h : RowH w (.slice A n c) T n R G B) : CellsH w A n R G B := by
  obtain ⟨A', cap, e, hc, _⟩ := h
  injection e with e1
  subst e1
  exact hc
/-- The first k are one number. -/
def lit (z : Int) (k : Nat) (F : Nat → Int) (j : Nat) : Int := if j < k then z else F j
theorem lit_zero {z : Int} {F : Nat → Int} (j : Nat) : lit z 0 F j = F j := if_neg (by omega)
theorem lit_start {z : Int} {F : Nat → Int} : lit z 0 F = F := funext lit_zero
theorem lit_all {z : Int} {F : Nat → Int} {n j : Nat} (h : j < n) : lit z n F j = z := if_pos h
theorem cell_set_ne {w : World} {b b' o o' : Nat} {v : Value} (h : b' ≠ b ∨ o' ≠ o) : (w.setCell ⟨b, o, none⟩ v).cell? ⟨b', o', none⟩ = w.cell? ⟨b', o', none⟩ := by
  by_cases hb : b' = b
  · subst hb
    have ho : o' ≠ o := by rcases h with h | h; exact absurd rfl h; exact h
    unfold World.cell? World.setCell
    simp only [Array.getElem?_modify]
    cases hh : w.heap[b']? with
    | none => simp
    | some x => cases x <;> simp [Ne.symm ho]
  · exact World.cell?_of_block (a := ⟨b', o', none⟩) (Below.heap_setCell _ _ _ _ hb)
theorem cell_set_eq {w : World} {b o : Nat} {u v : Value} (h : w.cell? ⟨b, o, none⟩ = some u) : (w.setCell ⟨b, o, none⟩ v).cell? ⟨b, o, none⟩ = some v := by
  unfold World.cell? at h ⊢
  unfold World.setCell
  simp only [Array.getElem?_modify]
  cases hh : w.heap[b]? with
  | none => simp [hh] at h
  | some x =>
    cases x with
    | cells c t fr =>
      simp only [hh] at h ⊢
      have : o < c.size := (Array.getElem?_eq_some_iff.1 (by simpa using h)).1
      simp [this]
    | _ => simp [hh] at h
theorem CellsH.put {w : World} {b off n k : Nat} {R G B : Nat → Int} {z0 z1 z2 : Int} (h : CellsH w (some ⟨b, off, none⟩) n (lit z0 k R) (lit z1 k G) (lit z2 k B)) (hk : k < n) :
    CellsH (((w.setCell ⟨b, off + k * 3, none⟩ (.int .i64 z0)).setCell ⟨b, off + k * 3 + 1, none⟩ (.int .i64 z1)).setCell ⟨b, off + k * 3 + 2, none⟩ (.int .i64 z2)) (some ⟨b, off, none⟩) n (lit z0 (k + 1) R) (lit z1 (k + 1) G) (lit z2 (k + 1) B) := by
  intro hn
  obtain ⟨b', off', e, hc⟩ := h hn
  injection e with e
  injection e with e1 e2
  subst e1 e2
  refine ⟨b, off, rfl, fun i hi => ?_⟩
  obtain ⟨c0, c1, c2⟩ := hc i hi
  by_cases hik : i = k
  · subst hik
    refine ⟨?_, ?_, ?_⟩
    · rw [cell_set_ne (.inr (by omega)), cell_set_ne (.inr (by omega)), cell_set_eq c0, lit_all (by omega)]
    · rw [cell_set_ne (.inr (by omega)), cell_set_eq (by rw [cell_set_ne (.inr (by omega))]; exact c1), lit_all (by omega)]
    · rw [cell_set_eq (by rw [cell_set_ne (.inr (by omega)), cell_set_ne (.inr (by omega))]; exact c2), lit_all (by omega)]
  · have e : ∀ (z : Int) (F : Nat → Int), lit z (k + 1) F i = lit z k F i := fun z F => by unfold lit; split <;> split <;> first | rfl | omega
    rw [e, e, e]
    refine ⟨?_, ?_, ?_⟩ <;> rw [cell_set_ne (.inr (by omega)), cell_set_ne (.inr (by omega)), cell_set_ne (.inr (by omega))] <;> assumption
end Go.Proofs.YtneegcnidoopmaaDoor
