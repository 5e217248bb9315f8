/- What came in: a light, a picture as the document's. No conditions. -/
import Derived.Test.YtneegcnidoopmaaL1
import Derived.Test.YtneegcnidoopmaaK
namespace Go.Proofs.Ytneegcnidoopmaa
open Go.RowKit

theorem hue_kinds : ∀ j, j < 3 → kindAt Try.prog 5 33 j = some .i64
  | 0, _ => by kernel_rfl
  | 1, _ => by kernel_rfl
  | 2, _ => by kernel_rfl
  | j + 3, h => by omega
theorem hue_size : Try.prog.cellsOf 33 = 3 := by kernel_rfl
theorem dot_kinds : ∀ j, j < 3 → kindAt Try.prog 5 133 j = some .u8
  | 0, _ => by kernel_rfl
  | 1, _ => by kernel_rfl
  | 2, _ => by kernel_rfl
  | j + 3, h => by omega
theorem dot_size : Try.prog.cellsOf 133 = 3 := by kernel_rfl
theorem rpic_kinds : ∀ j, j < 2 → kindAt Try.prog 5 36 j = some .i64
  | 0, _ => by kernel_rfl
  | 1, _ => by kernel_rfl
  | j + 2, h => by omega
theorem rpic_size : Try.prog.cellsOf 36 = 3 := by kernel_rfl
theorem rpic_dots : ∃ fs : Array Field, Try.prog.underlying 36 = some (.struct fs) ∧ ∃ f : Field, fs[2]? = some f ∧ f.offset = 2 ∧ f.type = 34 :=
  ⟨_, Try.underlying36, _, rfl, rfl, rfl⟩
theorem sl_size : Try.prog.cellsOf 34 = 1 := by kernel_rfl

section
variable {H : Type} {enc : TypeId × Value → H} {w : World} {base : Nat} {spare : Nat → Bool} {held : Bool}
/-- A light that came in. -/
theorem open_hue {v : Value} {d : DataW H} {ps : List MemPlace} (h : DataW.Trod enc Try.prog w base spare held 33 v d ps) :
    ∃ z : Nat → Int, v = .agg #[.int .i64 (z 0), .int .i64 (z 1), .int .i64 (z 2)] ∧ ∀ j, j < 3 → (Lit.int .i64 (z j)).wf = true := by
  obtain ⟨z, rfl, hz⟩ := open_flat_val 5 3 (fun _ => .i64) (by omega) (len_array Try.underlying33 hue_size) hue_kinds h
  exact ⟨z, rfl, hz⟩
theorem u8_wf {x : Int} (h : (Lit.int .u8 x).wf = true) : 0 ≤ x ∧ x ≤ 255 := by
  simp [Lit.wf] at h
  have h1 : IntKind.u8.min = 0 := by decide
  have h2 : IntKind.u8.max = 255 := by decide
  omega
/-- A picture that came in. -/
theorem open_pic {v : Value} {d : DataW H} {ps : List MemPlace} (h : DataW.Trod enc Try.prog w base spare held 36 v d ps) :
    ∃ (W Ht : Int) (A : Option Addr) (n cap : Nat) (R G B : Nat → Int), v = .agg #[.int .i64 W, .int .i64 Ht, .slice A n cap] ∧ n ≤ 9223372036854775807 ∧ (Lit.int .i64 W).wf = true ∧ (Lit.int .i64 Ht).wf = true ∧ Cells3 w A n R G B ∧ Bytes3 R G B n ∧ (A = none → n = 0 ∧ cap = 0) := by
  obtain ⟨fuel, hf⟩ := h
  obtain ⟨fs, hfs, f, hf2, ho, ht⟩ := rpic_dots
  have hl := len_struct hfs rpic_size _ _ _ hf
  obtain ⟨W, hW, wW⟩ := trod_kind 5 (rpic_kinds 0 (by omega)) hf
  obtain ⟨Ht, hH, wH⟩ := trod_kind 5 (rpic_kinds 1 (by omega)) hf
  obtain ⟨xs, m, _, _, _, hxl, hx⟩ := DataW.trod_struct hfs hf
  have h2 := hx 2 f hf2
  have hlt : 2 < xs.length := by rw [hxl]; exact (Array.getElem?_eq_some_iff.1 hf2).1
  rw [ho, ht, List.getElem?_eq_getElem hlt, sl_size] at h2
  obtain ⟨A, n, cap, V, hv, h3, h4, hw, hc⟩ := open_flat 5 3 (fun _ => .u8) Try.underlying34 dot_size dot_kinds (by omega) h2
  have hvv : v.cells.toList = [.int .i64 W, .int .i64 Ht, .slice A n cap] := by
    apply List.ext_getElem?
    intro j
    match j with
    | 0 => exact hW
    | 1 => exact hH
    | 2 =>
      have := congrArg (fun l => l[0]?) hv
      simp only [List.getElem?_take, List.getElem?_drop] at this
      simpa using this
    | j + 3 => rw [List.getElem?_eq_none (by omega), List.getElem?_eq_none (by simp)]
  have hnil : A = none → n = 0 ∧ cap = 0 := by
    rcases Deep.open_slice Try.underlying34 h2 with ⟨e, _⟩ | ⟨a, len, cap', m, n', D, Pl, e, _⟩
    · rw [hv] at e
      injection e with e
      injection e with e1 e2 e3
      exact fun _ => ⟨e2, e3⟩
    · rw [hv] at e
      injection e with e
      injection e with e1 e2 e3
      intro hA
      rw [hA] at e1
      cases e1
  refine ⟨W, Ht, A, n, cap, fun i => V i 0, fun i => V i 1, fun i => V i 2, ?_, Nat.le_trans (Nat.le_trans h3 h4) maxLen_small, wW, wH, fun hn => ?_, fun i hi => ?_, hnil⟩
  · cases v with
    | agg cs => rw [show cs = cs.toList.toArray by simp]; exact congrArg (fun l => Value.agg l.toArray) hvv
    | _ => simp [Value.cells] at hl
  · obtain ⟨b, off, e, hcc⟩ := hc hn
    exact ⟨b, off, e, fun i hi => ⟨hcc i 0 hi (by omega), hcc i 1 hi (by omega), hcc i 2 hi (by omega)⟩⟩
  · obtain ⟨a0, a1⟩ := u8_wf (hw i 0 hi (by omega))
    obtain ⟨b0, b1⟩ := u8_wf (hw i 1 hi (by omega))
    obtain ⟨c0, c1⟩ := u8_wf (hw i 2 hi (by omega))
    exact ⟨a0, a1, b0, b1, c0, c1⟩
end
end Go.Proofs.Ytneegcnidoopmaa
