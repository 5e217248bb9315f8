/- What came in: a film as the document's; the table of taps. No conditions. -/
import Derived.Test.YtneegcnidoopmaaDoorLo
import Derived.Test.YtneegcnidoopmaaDoorO
import Derived.SizedLaws
import Derived.LaidLaws
import Derived.LaidHandle
namespace Go.Proofs.YtneegcnidoopmaaDoor
open Go.RowKit

theorem hue_kinds : ∀ j, j < 3 → kindAt Tryd.prog 5 54 j = some .i64
  | 0, _ => by kernel_rfl
  | 1, _ => by kernel_rfl
  | 2, _ => by kernel_rfl
  | j + 3, h => by omega
theorem hue_size : Tryd.prog.cellsOf 54 = 3 := by kernel_rfl
theorem vec_kinds : ∀ j, j < 3 → kindAt Tryd.prog 5 66 j = some .i64
  | 0, _ => by kernel_rfl
  | 1, _ => by kernel_rfl
  | 2, _ => by kernel_rfl
  | j + 3, h => by omega
theorem vec_size : Tryd.prog.cellsOf 66 = 3 := by kernel_rfl
theorem i64_kinds : ∀ j, j < 1 → kindAt Tryd.prog 5 2 j = some .i64
  | 0, _ => by kernel_rfl
  | j + 1, h => by omega
theorem i64_size : Tryd.prog.cellsOf 2 = 1 := by kernel_rfl
theorem int_kinds : ∀ j, j < 1 → kindAt Tryd.prog 5 3 j = some .i64
  | 0, _ => by kernel_rfl
  | j + 1, h => by omega
theorem int_size : Tryd.prog.cellsOf 3 = 1 := by kernel_rfl
theorem rsh_kinds : ∀ j, j < 2 → kindAt Tryd.prog 5 24 j = some .i64
  | 0, _ => by kernel_rfl
  | 1, _ => by kernel_rfl
  | j + 2, h => by omega
theorem rsh_size : Tryd.prog.cellsOf 24 = 3 := by kernel_rfl
theorem rsh_light : ∃ fs : Array Field, Tryd.prog.underlying 24 = some (.struct fs) ∧ ∃ f : Field, fs[2]? = some f ∧ f.offset = 2 ∧ f.type = 22 :=
  ⟨_, Tryd.underlying24, _, rfl, rfl, rfl⟩
theorem hs_size : Tryd.prog.cellsOf 22 = 1 := by kernel_rfl
theorem vs_size : Tryd.prog.cellsOf 26 = 1 := by kernel_rfl
theorem ds_size : Tryd.prog.cellsOf 25 = 1 := by kernel_rfl
theorem ns_size : Tryd.prog.cellsOf 27 = 1 := by kernel_rfl
theorem rfm_size : Tryd.prog.cellsOf 29 = 8 := by kernel_rfl
theorem rfm_fields : ∃ fs : Array Field, Tryd.prog.underlying 29 = some (.struct fs) ∧ (∃ f : Field, fs[0]? = some f ∧ f.offset = 0 ∧ f.type = 24) ∧ (∃ f : Field, fs[1]? = some f ∧ f.offset = 3 ∧ f.type = 25) ∧
    (∃ f : Field, fs[2]? = some f ∧ f.offset = 4 ∧ f.type = 26) ∧ (∃ f : Field, fs[3]? = some f ∧ f.offset = 5 ∧ f.type = 22) ∧ (∃ f : Field, fs[4]? = some f ∧ f.offset = 6 ∧ f.type = 27) ∧ (∃ f : Field, fs[5]? = some f ∧ f.offset = 7 ∧ f.type = 27) :=
  ⟨_, Tryd.underlying29, ⟨_, rfl, rfl, rfl⟩, ⟨_, rfl, rfl, rfl⟩, ⟨_, rfl, rfl, rfl⟩, ⟨_, rfl, rfl, rfl⟩, ⟨_, rfl, rfl, rfl⟩, ⟨_, rfl, rfl, rfl⟩⟩
theorem b_i64 : Tryd.prog.bytesOf 2 = 8 := by kernel_rfl
theorem b_int : Tryd.prog.bytesOf 3 = 8 := by kernel_rfl
theorem b_hue : Tryd.prog.bytesOf 54 = 24 := by kernel_rfl
theorem b_vec : Tryd.prog.bytesOf 66 = 24 := by kernel_rfl

section
variable {H : Type} {enc : TypeId × Value → H} {w : World} {base : Nat} {spare : Nat → Bool} {held : Bool}
theorem agg_of_cells {v : Value} {cs : List Value} (h : v.cells.toList = cs) (hl : 2 ≤ cs.length) : v = .agg cs.toArray := by
  cases v with
  | agg xs => subst h; simp [Value.cells]
  | _ => subst h; simp [Value.cells] at hl
/-- A sheet's cells that came in. -/
theorem open_sheet_cells {fuel : Nat} {cs : List Value} {x : DataW H × List MemPlace} (hf : DataW.trod enc Tryd.prog w base spare held fuel 24 cs = some x) :
    ∃ (W Ht : Int) (A : Option Addr) (n cap : Nat) (R G B : Nat → Int), cs = [.int .i64 W, .int .i64 Ht, .slice A n cap] ∧ CellsH w A n R G B := by
  obtain ⟨fs, hfs, f, hf2, ho, ht⟩ := rsh_light
  have hl := len_struct hfs rsh_size _ _ _ hf
  obtain ⟨W, hW, wW⟩ := trod_kind 5 (rsh_kinds 0 (by omega)) hf
  obtain ⟨Ht, hH, wH⟩ := trod_kind 5 (rsh_kinds 1 (by omega)) hf
  obtain ⟨xs, m, _, _, _, hxl, hx⟩ := DataW.trod_struct hfs hf
  have h2 := hx 2 f hf2
  have hlt : 2 < xs.length := by rw [hxl]; exact (Array.getElem?_eq_some_iff.1 hf2).1
  rw [ho, ht, List.getElem?_eq_getElem hlt, hs_size] at h2
  obtain ⟨A, n, cap, V, hv, h3, h4, hw, hc⟩ := open_flat 5 3 (fun _ => .i64) Tryd.underlying22 hue_size hue_kinds (by omega) h2
  have hvv : cs = [.int .i64 W, .int .i64 Ht, .slice A n cap] := by
    apply List.ext_getElem?
    intro j
    match j with
    | 0 => exact hW
    | 1 => exact hH
    | 2 =>
      have := congrArg (fun l => l[0]?) hv
      simp only [List.getElem?_take, List.getElem?_drop] at this
      simpa using this
    | j + 3 => rw [List.getElem?_eq_none (by omega), List.getElem?_eq_none (by simp)]
  refine ⟨W, Ht, A, n, cap, fun i => V i 0, fun i => V i 1, fun i => V i 2, hvv, fun hn => ?_⟩
  obtain ⟨b, off, e, hcc⟩ := hc hn
  exact ⟨b, off, e, fun i hi => ⟨hcc i 0 hi (by omega), hcc i 1 hi (by omega), hcc i 2 hi (by omega)⟩⟩
/-- A sheet that came in. -/
theorem open_sheet {v : Value} {d : DataW H} {ps : List MemPlace} (h : DataW.Trod enc Tryd.prog w base spare held 24 v d ps) :
    ∃ (W Ht : Int) (A : Option Addr) (n cap : Nat) (R G B : Nat → Int), v = .agg #[.int .i64 W, .int .i64 Ht, .slice A n cap] ∧ CellsH w A n R G B := by
  obtain ⟨fuel, hf⟩ := h
  obtain ⟨W, Ht, A, n, cap, R, G, B, hcs, h4⟩ := open_sheet_cells hf
  exact ⟨W, Ht, A, n, cap, R, G, B, agg_of_cells hcs (by simp), h4⟩
/-- A light that came in. -/
theorem open_hue {v : Value} {d : DataW H} {ps : List MemPlace} (h : DataW.Trod enc Tryd.prog w base spare held 54 v d ps) :
    ∃ z : Nat → Int, v = .agg #[.int .i64 (z 0), .int .i64 (z 1), .int .i64 (z 2)] ∧ ∀ j, j < 3 → (Lit.int .i64 (z j)).wf = true := by
  obtain ⟨z, rfl, hz⟩ := open_flat_val 5 3 (fun _ => .i64) (by omega) (len_array Tryd.underlying54 hue_size) hue_kinds h
  exact ⟨z, rfl, hz⟩

/-- A slice's own facts: nil; the reach. -/
theorem slice_more {P : Program} {t e : TypeId} {fuel : Nat} {A : Option Addr} {len cap : Nat} {x : DataW H × List MemPlace} (ht : P.underlying t = some (.slice e)) (h : DataW.trod enc P w base spare held fuel t [.slice A len cap] = some x) :
    (A = none → len = 0 ∧ cap = 0) ∧ ((x.1.weights P t).all (· ≤ reachBytes) = true → len * P.bytesOf e ≤ reachBytes) := by
  rcases Deep.open_slice ht h with ⟨hcs, rfl⟩ | ⟨a, l', c', m, n, D, Pl, hcs, hb, hl, hm, hmm, rfl, hx⟩
  · injection hcs with e1
    injection e1 with e1 e2 e3
    subst e1 e2 e3
    exact ⟨fun _ => ⟨rfl, rfl⟩, fun _ => by rw [Nat.zero_mul]; exact Nat.zero_le _⟩
  · injection hcs with e1
    injection e1 with e1 e2 e3
    subst e1 e2 e3
    refine ⟨fun h => (by cases h), fun hR => ?_⟩
    have hm := List.all_eq_true.1 hR ((((List.range len).map D).length + ((List.range (m - len)).map fun j => D (len + j)).length) * P.bytesOf e) (by simp [DataW.weights, ht])
    simp only [List.length_map, List.length_range, decide_eq_true_eq] at hm
    exact Nat.le_trans (Nat.mul_le_mul_right _ (Nat.le_add_right _ _)) hm
theorem field_more {P : Program} {t : TypeId} {fs : Array Field} {fuel : Nat} {cs : List Value} {x : DataW H × List MemPlace} (ht : P.underlying t = some (.struct fs)) (h : DataW.trod enc P w base spare held fuel t cs = some x) (i : Nat) (f : Field) (hi : fs[i]? = some f) :
    ∃ y m, DataW.trod enc P w base spare held m f.type ((cs.drop f.offset).take (P.cellsOf f.type)) = some y ∧ ((x.1.weights P t).all (· ≤ reachBytes) = true → (y.1.weights P f.type).all (· ≤ reachBytes) = true) := by
  obtain ⟨xs, m, _, hx, _, hxl, hf⟩ := DataW.trod_struct ht h
  have hlt : i < xs.length := by rw [hxl]; exact (Array.getElem?_eq_some_iff.1 hi).1
  have h1 := hf i f hi
  rw [List.getElem?_eq_getElem hlt] at h1
  refine ⟨xs[i], m, h1, fun hR => ?_⟩
  subst hx
  simp only [DataW.weights, ht] at hR
  refine List.all_eq_true.2 fun k hk => List.all_eq_true.1 hR k ?_
  exact DataW.weights_mem_each (j := i) (t := f.type) (d := xs[i].1) (by simp [hi]) (by simp [hlt]) k hk
/-- A row of numbers in a struct. -/
theorem open_col {t e : TypeId} {fuel : Nat} {cs : List Value} {x : DataW H × List MemPlace} (ht : Tryd.prog.underlying t = some (.slice e)) (hsz : Tryd.prog.cellsOf e = 1) (hks : ∀ j, j < 1 → kindAt Tryd.prog 5 e j = some .i64) {b : Nat} (hb : Tryd.prog.bytesOf e = b)
    (h : DataW.trod enc Tryd.prog w base spare held fuel t cs = some x) :
    ∃ (A : Option Addr) (n cap : Nat) (F : Nat → Int), cs = [.slice A n cap] ∧ CellsI w A n F ∧ (A = none → n = 0 ∧ cap = 0) ∧ ((x.1.weights Tryd.prog t).all (· ≤ reachBytes) = true → n * b ≤ reachBytes) := by
  obtain ⟨A, n, cap, V, rfl, h3, h4, hw, hc⟩ := open_flat 5 1 (fun _ => .i64) ht hsz hks (by omega) h
  obtain ⟨m1, m2⟩ := slice_more ht h
  rw [hb] at m2
  refine ⟨A, n, cap, fun i => V i 0, rfl, fun hn => ?_, m1, m2⟩
  obtain ⟨b, off, e, hcc⟩ := hc hn
  refine ⟨b, off, e, fun i hi => ?_⟩
  have := hcc i 0 hi (by omega)
  rwa [Nat.mul_one, Nat.add_zero] at this
theorem open_col3 {t e : TypeId} {fuel : Nat} {cs : List Value} {x : DataW H × List MemPlace} (ht : Tryd.prog.underlying t = some (.slice e)) (hsz : Tryd.prog.cellsOf e = 3) (hks : ∀ j, j < 3 → kindAt Tryd.prog 5 e j = some .i64) {b : Nat} (hb : Tryd.prog.bytesOf e = b)
    (h : DataW.trod enc Tryd.prog w base spare held fuel t cs = some x) :
    ∃ (A : Option Addr) (n cap : Nat) (R G B : Nat → Int), cs = [.slice A n cap] ∧ CellsH w A n R G B ∧ ((x.1.weights Tryd.prog t).all (· ≤ reachBytes) = true → n * b ≤ reachBytes) := by
  obtain ⟨A, n, cap, V, rfl, h3, h4, hw, hc⟩ := open_flat 5 3 (fun _ => .i64) ht hsz hks (by omega) h
  obtain ⟨_, m2⟩ := slice_more ht h
  rw [hb] at m2
  refine ⟨A, n, cap, fun i => V i 0, fun i => V i 1, fun i => V i 2, rfl, fun hn => ?_, m2⟩
  obtain ⟨b, off, e, hcc⟩ := hc hn
  exact ⟨b, off, e, fun i hi => ⟨hcc i 0 hi (by omega), hcc i 1 hi (by omega), hcc i 2 hi (by omega)⟩⟩
theorem at_drop {cs : List Value} {k : Nat} {v : Value} (h : (cs.drop k).take 1 = [v]) : cs[k]? = some v := by
  have := congrArg (fun l => l[0]?) h
  simp only [List.getElem?_take, List.getElem?_drop] at this
  simpa using this

/-- A film that came in. -/
theorem open_film {v : Value} {d : DataW H} {ps : List MemPlace} (h : DataW.Trod enc Tryd.prog w base spare held 29 v d ps) (hr : (d.weights Tryd.prog 29).all (· ≤ reachBytes) = true) :
    ∃ (W Ht : Int) (AL AD AN AB AS AF : Option Addr) (nL cL nD cD nN cN nB cB nS cS nF cF : Nat) (R G B D NX NY NZ BR BG BB S F : Nat → Int),
      v = .agg #[.int .i64 W, .int .i64 Ht, .slice AL nL cL, .slice AD nD cD, .slice AN nN cN, .slice AB nB cB, .slice AS nS cS, .slice AF nF cF] ∧
      nD * 8 ≤ 140737488355328 ∧ nN * 24 ≤ 140737488355328 ∧ nB * 24 ≤ 140737488355328 ∧ nS * 8 ≤ 140737488355328 ∧ nF * 8 ≤ 140737488355328 ∧
      CellsH w AL nL R G B ∧ CellsI w AD nD D ∧ CellsH w AN nN NX NY NZ ∧ CellsH w AB nB BR BG BB ∧ CellsI w AS nS S ∧ CellsI w AF nF F ∧ (AS = none → nS = 0 ∧ cS = 0) ∧ (AF = none → nF = 0 ∧ cF = 0) := by
  obtain ⟨fuel, hf⟩ := h
  obtain ⟨fs, hfs, ⟨f0, g0, o0, t0⟩, ⟨f1, g1, o1, t1⟩, ⟨f2, g2, o2, t2⟩, ⟨f3, g3, o3, t3⟩, ⟨f4, g4, o4, t4⟩, ⟨f5, g5, o5, t5⟩⟩ := rfm_fields
  have hl := len_struct hfs rfm_size _ _ _ hf
  obtain ⟨y0, m0, k0, _⟩ := field_more hfs hf 0 f0 g0
  obtain ⟨y1, m1, k1, r1⟩ := field_more hfs hf 1 f1 g1
  obtain ⟨y2, m2, k2, r2⟩ := field_more hfs hf 2 f2 g2
  obtain ⟨y3, m3, k3, r3⟩ := field_more hfs hf 3 f3 g3
  obtain ⟨y4, m4, k4, r4⟩ := field_more hfs hf 4 f4 g4
  obtain ⟨y5, m5, k5, r5⟩ := field_more hfs hf 5 f5 g5
  rw [o0, t0, rsh_size] at k0
  rw [o1, t1, ds_size] at k1
  rw [o2, t2, vs_size] at k2
  rw [o3, t3, hs_size] at k3
  rw [o4, t4, ns_size] at k4
  rw [o5, t5, ns_size] at k5
  have r1 := r1 hr
  have r2 := r2 hr
  have r3 := r3 hr
  have r4 := r4 hr
  have r5 := r5 hr
  rw [t1] at r1
  rw [t2] at r2
  rw [t3] at r3
  rw [t4] at r4
  rw [t5] at r5
  obtain ⟨W, Ht, AL, nL, cL, R, G, B, e0, c0⟩ := open_sheet_cells k0
  obtain ⟨AD, nD, cD, D, e1, c1, _, b1⟩ := open_col Tryd.underlying25 i64_size i64_kinds b_i64 k1
  obtain ⟨AN, nN, cN, NX, NY, NZ, e2, c2, b2⟩ := open_col3 Tryd.underlying26 vec_size vec_kinds b_vec k2
  obtain ⟨AB, nB, cB, BR, BG, BB, e3, c3, b3⟩ := open_col3 Tryd.underlying22 hue_size hue_kinds b_hue k3
  obtain ⟨AS, nS, cS, S, e4, c4, z4, b4⟩ := open_col Tryd.underlying27 int_size int_kinds b_int k4
  obtain ⟨AF, nF, cF, F, e5, c5, z5, b5⟩ := open_col Tryd.underlying27 int_size int_kinds b_int k5
  have q1 := at_drop e1
  have q2 := at_drop e2
  have q3 := at_drop e3
  have q4 := at_drop e4
  have q5 := at_drop e5
  have b1 := b1 r1
  have b2 := b2 r2
  have b3 := b3 r3
  have b4 := b4 r4
  have b5 := b5 r5
  unfold reachBytes at b1 b2 b3 b4 b5
  refine ⟨W, Ht, AL, AD, AN, AB, AS, AF, nL, cL, nD, cD, nN, cN, nB, cB, nS, cS, nF, cF, R, G, B, D, NX, NY, NZ, BR, BG, BB, S, F, agg_of_cells (cs := [.int .i64 W, .int .i64 Ht, .slice AL nL cL, .slice AD nD cD, .slice AN nN cN, .slice AB nB cB, .slice AS nS cS, .slice AF nF cF]) ?_ (by simp), by omega, by omega, by omega, by omega, by omega, c0, c1, c2, c3, c4, c5, z4, z5⟩
  have a0 : ∀ j, j < 3 → v.cells.toList[j]? = [Value.int .i64 W, .int .i64 Ht, .slice AL nL cL][j]? := fun j hj => by
    have := congrArg (fun l => l[j]?) e0
    simp only [List.getElem?_take, List.getElem?_drop, if_pos hj, Nat.zero_add] at this
    exact this
  apply List.ext_getElem?
  intro j
  match j with
  | 0 => exact a0 0 (by omega)
  | 1 => exact a0 1 (by omega)
  | 2 => exact a0 2 (by omega)
  | 3 => exact q1
  | 4 => exact q2
  | 5 => exact q3
  | 6 => exact q4
  | 7 => exact q5
  | j + 8 => rw [List.getElem?_eq_none (by omega), List.getElem?_eq_none (by simp)]
end

/-! ### The taps -/
theorem taps_global : Tryd.prog.globalNamed "zoetrope/lace.taps" = some 0 := by kernel_rfl
theorem taps_type : (Tryd.prog.globals[0]?).map (·.type) = some 83 := by kernel_rfl
theorem taps_laid {W : World} (h : laidMetH Tryd.prog [("zoetrope/lace.taps", Rows.laid_zoetrope_lace_taps)] W) : TapsIn W := by
  have h' : laidMet Tryd.prog [("zoetrope/lace.taps", Rows.laid_zoetrope_lace_taps)] W := h
  obtain ⟨ps, ⟨g, t, cs, fuel, p, q, e1, e2, e3, e4, _, _⟩, _, _⟩ := h'
  obtain rfl := Option.some.inj (taps_global.symm.trans e1)
  obtain rfl := Option.some.inj (taps_type.symm.trans e2)
  obtain ⟨xs, m, _, hx, hl, hxl, hi⟩ := DataW.trod_array Tryd.underlying83 e4
  injection hx with hx _
  unfold Rows.laid_zoetrope_lace_taps at hx
  injection hx with hx
  rw [int_size] at hi
  intro a ha
  have h1 := hi a (by omega)
  have hlt : a < xs.length := by omega
  rw [List.getElem?_eq_getElem hlt, Nat.mul_one] at h1
  obtain ⟨z, hz, hd, _⟩ := DataW.trod_int Tryd.underlying3 h1
  have hv := at_drop hz
  rw [World.var?_cell e1 e3 a]
  rw [← Array.getElem?_toList, hv]
  have h2 := congrArg (fun l => l[a]?) hx
  simp only [List.getElem?_map, List.getElem?_eq_getElem hlt, Option.map_some, hd] at h2
  match a, ha with
  | 0, _ => simp at h2; rw [← h2]; rfl
  | 1, _ => simp at h2; rw [← h2]; rfl
  | 2, _ => simp at h2; rw [← h2]; rfl
end Go.Proofs.YtneegcnidoopmaaDoor
