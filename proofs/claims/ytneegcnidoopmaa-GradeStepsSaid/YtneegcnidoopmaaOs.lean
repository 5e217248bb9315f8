/- What came in: a sheet, steps as the document's. No conditions. -/
import Derived.Test.YtneegcnidoopmaaOp
import Derived.Test.YtneegcnidoopmaaRs
namespace Go.Proofs.Ytneegcnidoopmaa
open Go.RowKit

theorem rsh_kinds : ∀ j, j < 2 → kindAt Try.prog 5 63 j = some .i64
  | 0, _ => by kernel_rfl
  | 1, _ => by kernel_rfl
  | j + 2, h => by omega
theorem rsh_size : Try.prog.cellsOf 63 = 3 := by kernel_rfl
theorem rsh_light : ∃ fs : Array Field, Try.prog.underlying 63 = some (.struct fs) ∧ ∃ f : Field, fs[2]? = some f ∧ f.offset = 2 ∧ f.type = 61 :=
  ⟨_, Try.underlying63, _, rfl, rfl, rfl⟩
theorem hs_size : Try.prog.cellsOf 61 = 1 := by kernel_rfl
theorem rst_kinds : ∀ j, j < 7 → j ≠ 1 → kindAt Try.prog 5 67 j = some .i64
  | 0, _, _ => by kernel_rfl
  | 1, _, h => by omega
  | 2, _, _ => by kernel_rfl
  | 3, _, _ => by kernel_rfl
  | 4, _, _ => by kernel_rfl
  | 5, _, _ => by kernel_rfl
  | 6, _, _ => by kernel_rfl
  | j + 7, h, _ => by omega
theorem rst_size : Try.prog.cellsOf 67 = 7 := by kernel_rfl
theorem rst_pins : ∃ fs : Array Field, Try.prog.underlying 67 = some (.struct fs) ∧ ∃ f : Field, fs[1]? = some f ∧ f.offset = 1 ∧ f.type = 22 :=
  ⟨_, Try.underlying67, _, rfl, rfl, rfl⟩
theorem ps_size : Try.prog.cellsOf 22 = 1 := by kernel_rfl

section
variable {H : Type} {enc : TypeId × Value → H} {w : World} {base : Nat} {spare : Nat → Bool} {held : Bool}
/-- A sheet's cells that came in. -/
theorem open_sheet_cells {fuel : Nat} {cs : List Value} {x : DataW H × List MemPlace} (hf : DataW.trod enc Try.prog w base spare held fuel 63 cs = some x) :
    ∃ (W Ht : Int) (A : Option Addr) (n cap : Nat) (R G B : Nat → Int), cs = [.int .i64 W, .int .i64 Ht, .slice A n cap] ∧ n ≤ 9223372036854775807 ∧ (Lit.int .i64 W).wf = true ∧ (Lit.int .i64 Ht).wf = true ∧ CellsH w A n R G B := by
  obtain ⟨fs, hfs, f, hf2, ho, ht⟩ := rsh_light
  have hl := len_struct hfs rsh_size _ _ _ hf
  obtain ⟨W, hW, wW⟩ := trod_kind 5 (rsh_kinds 0 (by omega)) hf
  obtain ⟨Ht, hH, wH⟩ := trod_kind 5 (rsh_kinds 1 (by omega)) hf
  obtain ⟨xs, m, _, _, _, hxl, hx⟩ := DataW.trod_struct hfs hf
  have h2 := hx 2 f hf2
  have hlt : 2 < xs.length := by rw [hxl]; exact (Array.getElem?_eq_some_iff.1 hf2).1
  rw [ho, ht, List.getElem?_eq_getElem hlt, hs_size] at h2
  obtain ⟨A, n, cap, V, hv, h3, h4, hw, hc⟩ := open_flat 5 3 (fun _ => .i64) Try.underlying61 hue_size hue_kinds (by omega) h2
  have hvv : cs = [.int .i64 W, .int .i64 Ht, .slice A n cap] := by
    apply List.ext_getElem?
    intro j
    match j with
    | 0 => exact hW
    | 1 => exact hH
    | 2 =>
      have := congrArg (fun l => l[0]?) hv
      simp only [List.getElem?_take, List.getElem?_drop] at this
      simpa using this
    | j + 3 => rw [List.getElem?_eq_none (by omega), List.getElem?_eq_none (by simp)]
  refine ⟨W, Ht, A, n, cap, fun i => V i 0, fun i => V i 1, fun i => V i 2, hvv, Nat.le_trans (Nat.le_trans h3 h4) maxLen_small, wW, wH, fun hn => ?_⟩
  obtain ⟨b, off, e, hcc⟩ := hc hn
  exact ⟨b, off, e, fun i hi => ⟨hcc i 0 hi (by omega), hcc i 1 hi (by omega), hcc i 2 hi (by omega)⟩⟩
theorem agg_of_cells {v : Value} {cs : List Value} (h : v.cells.toList = cs) (hl : 2 ≤ cs.length) : v = .agg cs.toArray := by
  cases v with
  | agg xs => subst h; simp [Value.cells]
  | _ => subst h; simp [Value.cells] at hl
/-- A sheet that came in. -/
theorem open_sheet {v : Value} {d : DataW H} {ps : List MemPlace} (h : DataW.Trod enc Try.prog w base spare held 63 v d ps) :
    ∃ (W Ht : Int) (A : Option Addr) (n cap : Nat) (R G B : Nat → Int), v = .agg #[.int .i64 W, .int .i64 Ht, .slice A n cap] ∧ n ≤ 9223372036854775807 ∧ (Lit.int .i64 W).wf = true ∧ (Lit.int .i64 Ht).wf = true ∧ CellsH w A n R G B := by
  obtain ⟨fuel, hf⟩ := h
  obtain ⟨W, Ht, A, n, cap, R, G, B, hcs, h1, h2, h3, h4⟩ := open_sheet_cells hf
  exact ⟨W, Ht, A, n, cap, R, G, B, agg_of_cells hcs (by simp), h1, h2, h3, h4⟩

/-- A step's cells that came in. -/
theorem open_step {fuel : Nat} {cs : List Value} {x : DataW H × List MemPlace} (hf : DataW.trod enc Try.prog w base spare held fuel 67 cs = some x) :
    ∃ (s : Stp) (A : Option Addr) (cap : Nat), cs = [.int .i64 s.kind, .slice A s.n cap, .int .i64 s.a, .int .i64 s.b, .int .i64 s.t0, .int .i64 s.t1, .int .i64 s.t2] ∧ s.n ≤ 9223372036854775807 ∧ Cells2 w A s.n s.X s.Y := by
  obtain ⟨fs, hfs, f, hf2, ho, ht⟩ := rst_pins
  have hl := len_struct hfs rst_size _ _ _ hf
  obtain ⟨z0, e0, _⟩ := trod_kind 5 (rst_kinds 0 (by omega) (by omega)) hf
  obtain ⟨z2, e2, _⟩ := trod_kind 5 (rst_kinds 2 (by omega) (by omega)) hf
  obtain ⟨z3, e3, _⟩ := trod_kind 5 (rst_kinds 3 (by omega) (by omega)) hf
  obtain ⟨z4, e4, _⟩ := trod_kind 5 (rst_kinds 4 (by omega) (by omega)) hf
  obtain ⟨z5, e5, _⟩ := trod_kind 5 (rst_kinds 5 (by omega) (by omega)) hf
  obtain ⟨z6, e6, _⟩ := trod_kind 5 (rst_kinds 6 (by omega) (by omega)) hf
  obtain ⟨xs, m, _, _, _, hxl, hx⟩ := DataW.trod_struct hfs hf
  have h2 := hx 1 f hf2
  have hlt : 1 < xs.length := by rw [hxl]; exact (Array.getElem?_eq_some_iff.1 hf2).1
  rw [ho, ht, List.getElem?_eq_getElem hlt, ps_size] at h2
  obtain ⟨A, n, cap, V, hv, h3, h4, hw, hc⟩ := open_flat 5 2 (fun _ => .i64) Try.underlying22 pin_size pin_kinds (by omega) h2
  refine ⟨⟨z0, fun i => V i 0, fun i => V i 1, n, z2, z3, z4, z5, z6⟩, A, cap, ?_, Nat.le_trans (Nat.le_trans h3 h4) maxLen_small, fun hn => ?_⟩
  · apply List.ext_getElem?
    intro j
    match j with
    | 0 => exact e0
    | 1 =>
      have := congrArg (fun l => l[0]?) hv
      simp only [List.getElem?_take, List.getElem?_drop] at this
      simpa using this
    | 2 => exact e2
    | 3 => exact e3
    | 4 => exact e4
    | 5 => exact e5
    | 6 => exact e6
    | j + 7 => rw [List.getElem?_eq_none (by omega), List.getElem?_eq_none (by simp)]
  · obtain ⟨b, off, e, hcc⟩ := hc hn
    exact ⟨b, off, e, fun i hi => ⟨hcc i 0 hi (by omega), hcc i 1 hi (by omega)⟩⟩

instance : Inhabited Stp := ⟨⟨0, fun _ => 0, fun _ => 0, 0, 0, 0, 0, 0, 0⟩⟩
theorem spot_none {a : Addr} {v : Value} (h1 : w.cell? a = some v) : a.spot = none := by
  cases hsp : a.spot with
  | none => rfl
  | some q =>
    exfalso
    unfold World.cell? at h1
    split at h1
    · simp [hsp] at h1
    · cases h1
/-- Steps that came in. -/
theorem open_steps {v : Value} {d : DataW H} {ps : List MemPlace} (h : DataW.Trod enc Try.prog w base spare held 64 v d ps) :
    ∃ (Al : Option Addr) (m capl : Nat) (C : Nat → Option Addr) (KK : Nat → Nat) (L : Nat → Stp), v.cells.toList = [.slice Al m capl] ∧ m ≤ 9223372036854775807 ∧ (∀ i, i < m → (L i).n ≤ 9223372036854775807) ∧ CellsS w Al m C KK L := by
  obtain ⟨fuel, hf⟩ := h
  rcases Deep.open_slice Try.underlying64 hf with ⟨hcs, _⟩ | ⟨a, len, cap, m, n', D, Pl, hcs, hb, hl, hm, hmm, _, hx⟩
  · exact ⟨none, 0, 0, fun _ => none, fun _ => 0, fun _ => ⟨0, fun _ => 0, fun _ => 0, 0, 0, 0, 0, 0, 0⟩, hcs, by omega, fun i hi => by omega, fun h0 => by omega, fun i hi => by omega⟩
  · have hlm : len ≤ m := by rw [hmm]; split <;> omega
    have each : ∀ i, i < len → ∃ q : Stp × Option Addr × Nat, (∀ j u, [Value.int .i64 q.1.kind, .slice q.2.1 q.1.n q.2.2, .int .i64 q.1.a, .int .i64 q.1.b, .int .i64 q.1.t0, .int .i64 q.1.t1, .int .i64 q.1.t2][j]? = some u → w.cell? (a.add (i * 7 + j)) = some u) ∧ q.1.n ≤ 9223372036854775807 ∧ Cells2 w q.2.1 q.1.n q.1.X q.1.Y := by
      intro i hi
      obtain ⟨cs', h1, h2⟩ := hx i (by omega)
      rw [rst_size] at h1
      obtain ⟨_, hlen, hcell⟩ := World.cells?_some h1
      obtain ⟨s, A, c, rfl, hn, hc⟩ := open_step h2
      refine ⟨(s, A, c), fun j u hj => ?_, hn, hc⟩
      have hj7 : j < 7 := by have := (List.getElem?_eq_some_iff.1 hj).1; simpa using this
      rw [← Deep.add_add, hcell j hj7, hj]
    obtain ⟨V, hV⟩ := Deep.choose_lt (α := Stp × Option Addr × Nat) (n := len) each
    refine ⟨some a, len, cap, fun i => (V i).2.1, fun i => (V i).2.2, fun i => (V i).1, hcs, Nat.le_trans (Nat.le_trans hl hm) maxLen_small, fun i hi => (hV i hi).2.1, fun h0 => ?_, fun i hi => (hV i hi).2.2⟩
    have h1 := (hV 0 h0).1 0 _ rfl
    rw [Nat.zero_mul, Nat.zero_add] at h1
    have ea : a.add 0 = a := by unfold Addr.add; simp
    rw [ea] at h1
    have hs := spot_none h1
    obtain ⟨b, off, spot⟩ := a
    simp only at hs
    subst hs
    have ad : ∀ j, (⟨b, off, none⟩ : Addr).add j = ⟨b, off + j, none⟩ := fun j => by
      unfold Addr.add
      split
      · rename_i h00; rw [h00]; rfl
      · rfl
    refine ⟨b, off, rfl, fun i hi => ?_⟩
    have hc := (hV i hi).1
    simp only [ad] at hc
    exact ⟨hc 0 _ rfl, hc 1 _ rfl, hc 2 _ rfl, hc 3 _ rfl, hc 4 _ rfl, hc 5 _ rfl, hc 6 _ rfl⟩
end
end Go.Proofs.Ytneegcnidoopmaa
