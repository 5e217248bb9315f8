/- Contract of law18.To: a film as the program's. Conditions: the film's rows lie behind their slices; the sizes named. -/
import Derived.Test.YtneegcnidoopmaaDoorLg
import Derived.Test.YtneegcnidoopmaaDoorTs
import Derived.Test.YtneegcnidoopmaaDoorFa
namespace Go.Proofs.YtneegcnidoopmaaDoor
open Go.RowKit

/-- The film as the program's, but for the rows that loops fill. -/
def HeadFilm (base : Nat) (w : World) (W H : Int) (nL nS nF : Nat) (R G B S F : Nat → Int) (v : Value) : Prop :=
  ∃ vL vS vF, v = .agg #[.int .i64 W, .int .i64 H, vL, .slice none 0 0, .slice none 0 0, .slice none 0 0, vS, vF] ∧ RowHB base w vL 58 nL R G B ∧ RowI w vS 3 nS S ∧ RowI w vF 3 nF F
theorem HeadFilm.below {base : Nat} {w w1 : World} {W H : Int} {nL nS nF : Nat} {R G B S F : Nat → Int} {v : Value} (h : HeadFilm base w W H nL nS nF R G B S F v) (hb : Below w.heap.size w w1) : HeadFilm base w1 W H nL nS nF R G B S F v := by
  obtain ⟨vL, vS, vF, e, h1, h2, h3⟩ := h
  exact ⟨vL, vS, vF, e, h1.below hb, h2.below hb, h3.below hb⟩
def zeroFilm : Array Value := #[.int .i64 0, .int .i64 0, .slice none 0 0, .slice none 0 0, .slice none 0 0, .slice none 0 0, .slice none 0 0, .slice none 0 0]
def SheetRow (W H : Int) (T n : Nat) (R G B : Nat → Int) (v : Value) (w : World) : Prop := ∃ A cap, v = .agg #[.int .i64 W, .int .i64 H, .slice A n cap] ∧ CellsH w A n R G B ∧ (0 < n → TypA w A T)
def SheetRowN (base : Nat) (W H : Int) (T n : Nat) (R G B : Nat → Int) (v : Value) (w : World) : Prop := ∃ A cap, v = .agg #[.int .i64 W, .int .i64 H, .slice A n cap] ∧ CellsH w A n R G B ∧ (0 < n → TypA w A T) ∧ NewV base (.slice A n cap)
def EmptyS (v : Value) (_ : World) : Prop := ∃ b, v = .slice (some ⟨b, 0, none⟩) 0 0
def ZeroBlk (n : Nat) (v : Value) (w : World) : Prop := ∃ b, v = .pointer (some ⟨b, 0, none⟩) ∧ n ≤ b ∧ Blk w b zeroFilm 43

/-- All that was there is as it was, but for one variable. -/
structure Kept1 (w1 : World) (f : Nat) (wr : World) : Prop where
  size : w1.heap.size ≤ wr.heap.size
  block : ∀ b, b < w1.heap.size → b ≠ f → wr.heap[b]? = w1.heap[b]?
theorem Kept1.refl (w : World) (f : Nat) : Kept1 w f w := ⟨Nat.le_refl _, fun _ _ _ => rfl⟩
theorem Kept1.below {w1 wr w2 : World} {f : Nat} (h : Kept1 w1 f wr) (hb : Below wr.heap.size wr w2) : Kept1 w1 f w2 := ⟨Nat.le_trans h.size hb.size, fun b h1 h2 => (hb.block b (Nat.lt_of_lt_of_le h1 h.size)).trans (h.block b h1 h2)⟩
theorem Kept1.alloc {w1 wr : World} {f : Nat} (h : Kept1 w1 f wr) (o : Obj) : Kept1 w1 f (wr.alloc o) := h.below (gr_alloc (gr_refl _) o)
theorem Kept1.ext {w1 wr : World} {f : Nat} (h : Kept1 w1 f wr) (x : Ext wr) : Kept1 w1 f x.val := h.below x.below
theorem Kept1.set {w1 wr : World} {f : Nat} (h : Kept1 w1 f wr) {a : Addr} (ha : a.block = f ∨ w1.heap.size ≤ a.block) (v : Value) : Kept1 w1 f (wr.setCell a v) :=
  ⟨by have := h.size; simpa [World.setCell] using this, fun b h1 h2 => (Below.heap_setCell _ _ _ _ (by rcases ha with ha | ha <;> omega)).trans (h.block b h1 h2)⟩
theorem Kept1.grown {w1 wr w2 : World} {f : Nat} (h : Kept1 w1 f wr) {row : Option Nat} (hg : wr.grownBy w2 row) (hr : ∀ k, row = some k → w1.heap.size ≤ k) : Kept1 w1 f w2 :=
  ⟨Nat.le_trans h.size hg.size, fun b h1 h2 => (hg.block b (Nat.lt_of_lt_of_le h1 h.size) fun e => by have := hr b e.symm; omega).trans (h.block b h1 h2)⟩
theorem typ_kept1 {w1 wr : World} {f : Nat} {c : Array Value} {Tf T : TypeId} {b off : Nat} (ht : TypA w1 (some ⟨b, off, none⟩) T) (hk : Kept1 w1 f wr) (hf : Blk w1 f c Tf) (hT : T ≠ Tf) : wr.heap[b]? = w1.heap[b]? := by
  obtain ⟨c', e⟩ := ht _ rfl
  refine hk.block b (Array.getElem?_eq_some_iff.1 e).1 fun h => ?_
  subst h
  have h2 := hf.heap
  rw [show w1.heap[b]? = _ from e] at h2
  injection h2 with h2
  injection h2 with _ h2
  exact hT h2
theorem RowI.kept1 {w1 wr : World} {f : Nat} {c : Array Value} {Tf T : TypeId} {v : Value} {n : Nat} {F : Nat → Int} (h : RowI w1 v T n F) (hk : Kept1 w1 f wr) (hf : Blk w1 f c Tf) (hT : T ≠ Tf) : RowI wr v T n F := by
  obtain ⟨A, cap, e, hc, ht⟩ := h
  refine ⟨A, cap, e, fun hn => ?_, fun hn a ha => ?_⟩
  · obtain ⟨b, off, rfl, hcell⟩ := hc hn
    have key := typ_kept1 (ht hn) hk hf hT
    exact ⟨b, off, rfl, fun i hi => (World.cell?_of_block (a := ⟨b, _, none⟩) key).trans (hcell i hi)⟩
  · obtain ⟨b, off, rfl, _⟩ := hc hn
    injection ha with ha
    subst ha
    rw [typ_kept1 (ht hn) hk hf hT]
    exact ht hn _ rfl
theorem RowH.kept1 {w1 wr : World} {f : Nat} {c : Array Value} {Tf T : TypeId} {v : Value} {n : Nat} {R G B : Nat → Int} (h : RowH w1 v T n R G B) (hk : Kept1 w1 f wr) (hf : Blk w1 f c Tf) (hT : T ≠ Tf) : RowH wr v T n R G B := by
  obtain ⟨A, cap, e, hc, ht⟩ := h
  refine ⟨A, cap, e, fun hn => ?_, fun hn a ha => ?_⟩
  · obtain ⟨b, off, rfl, hcell⟩ := hc hn
    have key := typ_kept1 (ht hn) hk hf hT
    exact ⟨b, off, rfl, fun i hi => ⟨(World.cell?_of_block (a := ⟨b, _, none⟩) key).trans (hcell i hi).1, (World.cell?_of_block (a := ⟨b, _, none⟩) key).trans (hcell i hi).2.1, (World.cell?_of_block (a := ⟨b, _, none⟩) key).trans (hcell i hi).2.2⟩⟩
  · obtain ⟨b, off, rfl, _⟩ := hc hn
    injection ha with ha
    subst ha
    rw [typ_kept1 (ht hn) hk hf hT]
    exact ht hn _ rfl
theorem RowHB.kept1 {base : Nat} {w1 wr : World} {f : Nat} {c : Array Value} {Tf T : TypeId} {v : Value} {n : Nat} {R G B : Nat → Int} (h : RowHB base w1 v T n R G B) (hk : Kept1 w1 f wr) (hf : Blk w1 f c Tf) (hT : T ≠ Tf) : RowHB base wr v T n R G B := ⟨h.1.kept1 hk hf hT, h.2⟩
theorem Blk.kept1 {w1 wr : World} {f b : Nat} {c : Array Value} {T : TypeId} (h : Blk w1 b c T) (hk : Kept1 w1 f wr) (hne : b ≠ f) : Blk wr b c T := ⟨(hk.block b h.lt hne).trans h.heap⟩
/-- A film of the program's. -/
def FilmVal (w : World) (W H : Int) (nL nD nN nB nS nF : Nat) (R G B D NX NY NZ BR BG BB S F : Nat → Int) (v : Value) : Prop :=
  ∃ vL vD vN vB vS vF, v = .agg #[.int .i64 W, .int .i64 H, vL, vD, vN, vB, vS, vF] ∧ RowH w vL 58 nL R G B ∧ RowI w vD 56 nD D ∧ RowH w vN 64 nN NX NY NZ ∧ RowH w vB 58 nB BR BG BB ∧ RowI w vS 3 nS S ∧ RowI w vF 3 nF F
def RetFilm (w : World) (W H : Int) (nL nD nN nB nS nF : Nat) (R G B D NX NY NZ BR BG BB S F : Nat → Int) (e : Ending) (w' : World) : Prop := ∃ v, e = .returned v ∧ FilmVal w' W H nL nD nN nB nS nF R G B D NX NY NZ BR BG BB S F v ∧ Below w.heap.size w w' ∧ ∀ x, v.cells[2]? = some x → NewV w.heap.size x

set_option maxRecDepth 100000 in
set_option maxHeartbeats 8000000 in
theorem to_any (W H : Int) (AL AD AN AB AS AF : Option Addr) (nL cL nD cD nN cN nB cB nS cS nF cF : Nat) (R G B D NX NY NZ BR BG BB S F : Nat → Int) (w : World) (hnL : nL ≤ 1000000)
    (rD : nD * 8 ≤ 140737488355328) (rN : nN * 24 ≤ 140737488355328) (rB : nB * 24 ≤ 140737488355328) (rS : nS * 8 ≤ 140737488355328) (rF : nF * 8 ≤ 140737488355328)
    (hL : CellsH w AL nL R G B) (hD : CellsI w AD nD D) (hN : CellsH w AN nN NX NY NZ) (hB : CellsH w AB nB BR BG BB) (hS : CellsI w AS nS S) (hF : CellsI w AF nF F) (nilS : AS = none → nS = 0 ∧ cS = 0) (nilF : AF = none → nF = 0 ∧ cF = 0) :
    Calls Tryd.prog 9 #[.agg #[.int .i64 W, .int .i64 H, .slice AL nL cL, .slice AD nD cD, .slice AN nN cN, .slice AB nB cB, .slice AS nS cS, .slice AF nF cF]] w (RetFilm w W H nL nD nN nB nS nF R G B D NX NY NZ BR BG BB S F) := by
  have HL := Lib.hid hL
  have HD := Lib.hid hD
  have HN := Lib.hid hN
  have HB := Lib.hid hB
  have HS := Lib.hid hS
  have HF := Lib.hid hF
  have NS := Lib.hid nilS
  have NF := Lib.hid nilF
  clear hL hD hN hB hS hF nilS nilF
  go_enter Tryd.func9, Tryd.ntmps9
  go_wp2
  refine wp_region_grow 13 [[], [0], [1], [], [], [4], [3, 5], [], [], [8], [7, 9], [2, 6, 10], []]
    [Is (.pointer (some ⟨w.heap.size, 0, none⟩)), Is (.agg #[.int .i64 W, .int .i64 H, .slice AL nL cL]), SheetRowN w.heap.size W H 58 nL R G B, EmptyS, Is (.pointer (some ⟨w.heap.size, 6, none⟩)), Is (.slice AS nS cS), fun v w => RowI w v 3 nS S, EmptyS, Is (.pointer (some ⟨w.heap.size, 7, none⟩)), Is (.slice AF nF cF), fun v w => RowI w v 3 nF F, fun v wz => HeadFilm w.heap.size wz W H nL nS nF R G B S F v, ZeroBlk (w.heap.size + 1 + 1)]
    (by kernel_rfl) (by kernel_rfl) ?_ ?_ ?_
  · intro f hf
    simp only [List.mem_cons, List.not_mem_nil, or_false] at hf
    rcases hf with rfl | rfl | rfl | rfl | rfl | rfl | rfl | rfl | rfl | rfl | rfl | rfl | rfl
    all_goals first | exact MonoG.is _ | exact fun v w w' h hb => RowI.below h hb | exact fun v w w' h hb => HeadFilm.below h hb | exact fun v w w' h hb => h | skip
    · intro v w w' h hb
      obtain ⟨A, cap, e, hc, ht, hnw⟩ := h
      exact ⟨A, cap, e, hc.below hb, fun hn => (ht hn).below hb, hnw⟩
    · intro v w w' h hb
      obtain ⟨b, e, hn, hz⟩ := h
      exact ⟨b, e, hn, hz.below hb⟩
  · simp only [List.take_succ_cons, List.take_zero]
    have par : ∀ w1, Below ((w.alloc (.cells #[.int .i64 W, .int .i64 H, .slice AL nL cL, .slice AD nD cD, .slice AN nN cN, .slice AB nB cB, .slice AS nS cS, .slice AF nF cF] 29)).alloc (.cells zeroFilm 43)).drew.heap.size ((w.alloc (.cells #[.int .i64 W, .int .i64 H, .slice AL nL cL, .slice AD nD cD, .slice AN nN cN, .slice AB nB cB, .slice AS nS cS, .slice AF nF cF] 29)).alloc (.cells zeroFilm 43)).drew w1 → Below w.heap.size w w1 ∧ Blk w1 w.heap.size #[.int .i64 W, .int .i64 H, .slice AL nL cL, .slice AD nD cD, .slice AN nN cN, .slice AB nB cB, .slice AS nS cS, .slice AF nF cF] 29 :=
      fun w1 hb => ⟨gr_below (by repeat (first | assumption | exact gr_refl _ | refine gr_alloc ?_ _ | refine gr_drew ?_ | refine gr_drewN ?_ _ | refine gr_ext ?_ _ | (refine gr_set ?_ ?_ _; rotate_left; (simp <;> omega)))) hb, Blk.below (by repeat (first | assumption | (refine Blk.at_ _ _ ?_; simp; done) | refine Blk.alloc ?_ _ | refine Blk.drew ?_ | refine Blk.ext ?_ _ | exact Blk.set (by assumption) _ _ | (refine Blk.other ?_ ?_ _; rotate_left; (simp <;> omega)))) hb⟩
    have PAR := Lib.hid par
    clear par
    refine ⟨?_, ?_, ?_, ?_, ?_, ?_, ?_, ?_, ?_, ?_, ?_, ?_, ?_, trivial⟩
    ·
      intro w1 vs hb hd
      simp only [List.getD_cons_zero, virt, List.not_mem_nil, false_implies, implies_true] at hd ⊢
      go_wp2
      exact ⟨_, rfl, rfl, gr_refl _⟩
    ·
      intro w1 vs hb hd
      simp only [Nat.zero_add, List.getD_cons_zero, List.getD_cons_succ, virt, dstOf, List.getElem?_toArray, List.getElem?_cons_zero, Option.bind_some, Act.put, List.setIfInBounds_toArray, List.set_cons_zero, List.set_cons_succ, List.mem_cons, List.not_mem_nil, or_false, forall_eq] at hd ⊢
      obtain ⟨hbw, hpar⟩ := PAR.out _ hb
      have cp := hpar.cell
      have h0 : vs 0 = _ := hd
      rw [h0]
      clear hb hd h0 hbw
      go_wp2
      exact ⟨_, rfl, rfl, gr_refl _⟩
    ·
      intro w1 vs hb hd
      simp only [Nat.zero_add, List.getD_cons_zero, List.getD_cons_succ, virt, dstOf, List.getElem?_toArray, List.getElem?_cons_zero, List.getElem?_cons_succ, Option.bind_some, Act.put, List.setIfInBounds_toArray, List.set_cons_zero, List.set_cons_succ, List.mem_cons, List.not_mem_nil, or_false, forall_eq] at hd ⊢
      obtain ⟨hbw, hpar⟩ := PAR.out _ hb
      have h0 : vs 1 = _ := hd
      rw [h0]
      have HC := Lib.hid (HL.out.below hbw)
      have hsb := hbw.size
      clear hb hd h0 hbw hpar
      go_wp2_with fail
      refine (tosheet_any W H AL nL cL R G B _ hnL HC.out).mono ?_
      rintro e w' ⟨v, rfl, ho, hb1⟩
      obtain ⟨A', cap', rfl, hcap, hc'⟩ := ho.hues
      go_wp2
      exact ⟨_, rfl, ⟨A', cap', rfl, hc', fun _ => ho.typ, fun b hb' => Nat.le_trans hsb (ho.newV b hb')⟩, hb1⟩
    ·
      intro w1 vs hb hd
      simp only [Nat.zero_add, List.getD_cons_zero, List.getD_cons_succ, virt, List.not_mem_nil, false_implies, implies_true] at hd ⊢
      go_wp2
      exact ⟨_, rfl, ⟨_, rfl⟩, gr_alloc (gr_refl _) _⟩
    ·
      intro w1 vs hb hd
      simp only [Nat.zero_add, List.getD_cons_zero, List.getD_cons_succ, virt, List.not_mem_nil, false_implies, implies_true] at hd ⊢
      go_wp2
      exact ⟨_, rfl, rfl, gr_refl _⟩
    ·
      intro w1 vs hb hd
      simp only [Nat.zero_add, List.getD_cons_zero, List.getD_cons_succ, virt, dstOf, List.getElem?_toArray, List.getElem?_cons_zero, List.getElem?_cons_succ, Option.bind_some, Act.put, List.setIfInBounds_toArray, List.set_cons_zero, List.set_cons_succ, List.mem_cons, List.not_mem_nil, or_false, forall_eq] at hd ⊢
      obtain ⟨hbw, hpar⟩ := PAR.out _ hb
      have cp := hpar.cell
      have h0 : vs 4 = _ := hd
      rw [h0]
      clear hb hd h0 hbw
      go_wp2
      exact ⟨_, rfl, rfl, gr_refl _⟩
    ·
      intro w1 vs hb hd
      simp only [Nat.zero_add, List.getD_cons_zero, List.getD_cons_succ, virt, dstOf, List.getElem?_toArray, List.getElem?_cons_zero, List.getElem?_cons_succ, Option.bind_some, Act.put, List.setIfInBounds_toArray, List.set_cons_zero, List.set_cons_succ, List.mem_cons, List.not_mem_nil, or_false, forall_eq_or_imp, forall_eq] at hd ⊢
      obtain ⟨hbw, hpar⟩ := PAR.out _ hb
      obtain ⟨⟨b0, h3⟩, h5⟩ := hd
      have h5 : vs 5 = _ := h5
      rw [h3, h5]
      have HC := Lib.hid (HS.out.below hbw)
      clear hb h3 h5 hbw hpar
      refine wpList_append_ints rfl _ _ 27 rfl 3 Tryd.underlying27 (by kernel_rfl) b0 rfl AS nS cS S rfl HC.out NS.out rS ?_
      intro v' w' h1 h2
      exact ⟨_, rfl, h1, h2⟩
    ·
      intro w1 vs hb hd
      simp only [Nat.zero_add, List.getD_cons_zero, List.getD_cons_succ, virt, List.not_mem_nil, false_implies, implies_true] at hd ⊢
      go_wp2
      exact ⟨_, rfl, ⟨_, rfl⟩, gr_alloc (gr_refl _) _⟩
    ·
      intro w1 vs hb hd
      simp only [Nat.zero_add, List.getD_cons_zero, List.getD_cons_succ, virt, List.not_mem_nil, false_implies, implies_true] at hd ⊢
      go_wp2
      exact ⟨_, rfl, rfl, gr_refl _⟩
    ·
      intro w1 vs hb hd
      simp only [Nat.zero_add, List.getD_cons_zero, List.getD_cons_succ, virt, dstOf, List.getElem?_toArray, List.getElem?_cons_zero, List.getElem?_cons_succ, Option.bind_some, Act.put, List.setIfInBounds_toArray, List.set_cons_zero, List.set_cons_succ, List.mem_cons, List.not_mem_nil, or_false, forall_eq] at hd ⊢
      obtain ⟨hbw, hpar⟩ := PAR.out _ hb
      have cp := hpar.cell
      have h0 : vs 8 = _ := hd
      rw [h0]
      clear hb hd h0 hbw
      go_wp2
      exact ⟨_, rfl, rfl, gr_refl _⟩
    ·
      intro w1 vs hb hd
      simp only [Nat.zero_add, List.getD_cons_zero, List.getD_cons_succ, virt, dstOf, List.getElem?_toArray, List.getElem?_cons_zero, List.getElem?_cons_succ, Option.bind_some, Act.put, List.setIfInBounds_toArray, List.set_cons_zero, List.set_cons_succ, List.mem_cons, List.not_mem_nil, or_false, forall_eq_or_imp, forall_eq] at hd ⊢
      obtain ⟨hbw, hpar⟩ := PAR.out _ hb
      obtain ⟨⟨b0, h3⟩, h5⟩ := hd
      have h5 : vs 9 = _ := h5
      rw [h3, h5]
      have HC := Lib.hid (HF.out.below hbw)
      clear hb h3 h5 hbw hpar
      refine wpList_append_ints rfl _ _ 27 rfl 3 Tryd.underlying27 (by kernel_rfl) b0 rfl AF nF cF F rfl HC.out NF.out rF ?_
      intro v' w' h1 h2
      exact ⟨_, rfl, h1, h2⟩
    ·
      intro w1 vs hb hd
      simp only [Nat.zero_add, List.getD_cons_zero, List.getD_cons_succ, virt, dstOf, List.getElem?_toArray, List.getElem?_cons_zero, List.getElem?_cons_succ, Option.bind_some, Act.put, List.setIfInBounds_toArray, List.set_cons_zero, List.set_cons_succ, List.mem_cons, List.not_mem_nil, or_false, forall_eq_or_imp, forall_eq] at hd ⊢
      obtain ⟨⟨A2, c2, h2, hc2, ht2, hn2⟩, h6, h10⟩ := hd
      obtain ⟨A6, c6, h6, hc6, ht6⟩ := h6
      obtain ⟨A10, c10, h10, hc10, ht10⟩ := h10
      rw [h2, h6, h10]
      have H2 := Lib.hid (show RowHB w.heap.size w1 (.slice A2 nL c2) 58 nL R G B from ⟨⟨A2, c2, rfl, hc2, ht2⟩, hn2⟩)
      have H6 := Lib.hid (show RowI w1 (.slice A6 nS c6) 3 nS S from ⟨A6, c6, rfl, hc6, ht6⟩)
      have H10 := Lib.hid (show RowI w1 (.slice A10 nF c10) 3 nF F from ⟨A10, c10, rfl, hc10, ht10⟩)
      clear hb h2 h6 h10 hc2 ht2 hn2 hc6 ht6 hc10 ht10
      go_wp2
      exact ⟨_, rfl, ⟨_, _, _, rfl, H2.out, H6.out, H10.out⟩, gr_refl _⟩
    ·
      intro w1 vs hb hd
      simp only [Nat.zero_add, List.getD_cons_zero, List.getD_cons_succ, virt, List.not_mem_nil, false_implies, implies_true] at hd ⊢
      have hs := hb.size
      simp at hs
      go_wp2
      exact ⟨_, rfl, ⟨_, rfl, hs, Blk.new _ _ _⟩, gr_alloc (gr_refl _) _⟩
  · intro w1 vs hb hf
    obtain ⟨vL, vS, vF, h11, hvL, hvS, hvF⟩ := hf 11 (by omega)
    obtain ⟨bf, h12, hbf, hz⟩ := hf 12 (by omega)
    obtain ⟨A2, c2, rfl⟩ : ∃ A c, vL = .slice A nL c := by obtain ⟨A, c, e, _⟩ := hvL.1; exact ⟨A, c, e⟩
    obtain ⟨A6, c6, rfl⟩ : ∃ A c, vS = .slice A nS c := by obtain ⟨A, c, e, _⟩ := hvS; exact ⟨A, c, e⟩
    obtain ⟨A7, c7, rfl⟩ : ∃ A c, vF = .slice A nF c := by obtain ⟨A, c, e, _⟩ := hvF; exact ⟨A, c, e⟩
    rw [show List.range 13 = [0, 1, 2, 3, 4, 5, 6, 7, 8, 9, 10, 11, 12] from rfl]
    simp only [virt, dstOf, List.getElem?_toArray, List.getElem?_cons_zero, List.getElem?_cons_succ, Option.bind_some, Act.put, List.setIfInBounds_toArray, List.set_cons_zero, List.set_cons_succ, List.drop_succ_cons, List.drop_zero]
    rw [h11, h12]
    have hsz := hb.size
    simp at hsz
    have hbw : Below w.heap.size w w1 := gr_below (by repeat (first | assumption | exact gr_refl _ | refine gr_alloc ?_ _ | refine gr_drew ?_ | refine gr_drewN ?_ _ | refine gr_ext ?_ _ | (refine gr_set ?_ ?_ _; rotate_left; (simp <;> omega)))) hb
    have par : Blk w1 w.heap.size #[.int .i64 W, .int .i64 H, .slice AL nL cL, .slice AD nD cD, .slice AN nN cN, .slice AB nB cB, .slice AS nS cS, .slice AF nF cF] 29 := Blk.below (by repeat (first | assumption | (refine Blk.at_ _ _ ?_; simp; done) | refine Blk.alloc ?_ _ | refine Blk.drew ?_ | refine Blk.ext ?_ _ | exact Blk.set (by assumption) _ _ | (refine Blk.other ?_ ?_ _; rotate_left; (simp <;> omega)))) hb
    have res : Blk w1 (w.heap.size + 1) zeroFilm 43 := Blk.below (by repeat (first | assumption | (refine Blk.at_ _ _ ?_; simp; done) | refine Blk.alloc ?_ _ | refine Blk.drew ?_ | refine Blk.ext ?_ _ | exact Blk.set (by assumption) _ _ | (refine Blk.other ?_ ?_ _; rotate_left; (simp <;> omega)))) hb
    have HVL := Lib.hid hvL
    have HVS := Lib.hid hvS
    have HVF := Lib.hid hvF
    have HZ := Lib.hid hz
    have HBW := Lib.hid hbw
    have PA := Lib.hid par
    have RE := Lib.hid res
    clear hb hf h11 h12 hvL hvS hvF hz hbw par res
    go_wp2_with (refine wpList_store_blk (w0 := w) rfl 43 _ _ rfl bf _ rfl rfl 43 _ HZ.out (by kernel_rfl) (by kernel_rfl) (by kernel_rfl) HBW.out ?_ ?_)
    · omega
    intro w2 hbl hbw2 hg2
    have k12 : Kept1 w1 bf w2 := ⟨hg2.size, fun b h1 h2 => hg2.block b h1 (by simpa using h2)⟩
    have VL2 := Lib.hid (HVL.out.kept1 k12 HZ.out (by decide))
    have VS2 := Lib.hid (HVS.out.kept1 k12 HZ.out (by decide))
    have VF2 := Lib.hid (HVF.out.kept1 k12 HZ.out (by decide))
    have PA2 := Lib.hid (PA.out.grown hg2 (by simp; omega))
    have RE2 := Lib.hid (RE.out.grown hg2 (by simp; omega))
    have STB := Lib.hid hbw2
    have STF := Lib.hid hbl
    have cp := PA2.out.cell
    have lp := PA2.out.lt
    have lbf := hbl.lt
    have hs2 := hbw2.size
    clear hbl hbw2 hg2 k12 HVL HVS HVF HZ HBW PA RE
    go_wp2
    go_loopw [25] (fun i wr => ∃ (k : Nat) (v : Value), k ≤ nD ∧ i = .int .i64 k ∧ Below w.heap.size w wr ∧ Kept1 w2 bf wr ∧ Blk wr bf #[.int .i64 W, .int .i64 H, .slice A2 nL c2, v, .slice none 0 0, .slice none 0 0, .slice A6 nS c6, .slice A7 nF c7] 43 ∧ Own wr w2.heap.size 56 1 v ((List.range k).map (intC D))) (fun i _ => nD - (intOf i).toNat)
    case atStart => exact ⟨0, .slice none 0 0, by omega, rfl, STB.out, Kept1.refl _ _, STF.out, Own.nil _ _ _ _⟩
    case round =>
      obtain ⟨k, v, hk, rfl, hb, hkp, hfl, hown⟩ := hrel
      have l3 := hfl.lt
      have HBE := Lib.hid hb
      have KP := Lib.hid hkp
      have FL := Lib.hid hfl
      have HW := Lib.hid hown
      by_cases hlt : k < nD
      · obtain ⟨b, off, rfl, hcell⟩ := HD.out (by omega)
        have c0 := cell_later hb (hcell k hlt)
        have lb : b < wr.heap.size := World.block_lt_of_cell? _ _ c0
        obtain ⟨A', cap', rfl, hcap', _, _⟩ := hown.cells
        simp only [List.length_map, List.length_range] at HW hcap' FL
        have co := FL.out.cell 3
        simp at co
        have n1 := HW.out.ne_blk FL.out (by decide)
        have N1 := Lib.hid n1
        have lks := hkp.size
        clear hcell hb hkp hfl hown n1
        go_wp2_with (at_builtin; refine own_append1 (w0 := w) rfl _ _ 40 rfl w2.heap.size 56 (.int .i64 0) 1 8 Tryd.underlying40 (by kernel_rfl) rfl (by omega) _ _ rfl (HW.out.alloc _) wr.heap.size (intC D k) rfl (Blk.new _ _ _) rfl (by intro u hu; simp [intC] at hu; subst hu; rfl) (by simp; omega) (by omega) (gr_alloc HBE.out _) (by omega) (by simp; omega) ?_)
        intro v' w3 ho1 hb1 hg1
        rw [← map_range_succ] at ho1
        have bo1 := (FL.out.alloc _).grown hg1 (Ne.symm N1.out)
        have k1 := (KP.out.alloc _).grown hg1 (fun q hq => (HW.out.row.lt q hq).1)
        have lb1 := bo1.lt
        obtain ⟨A3, cap3, rfl, _, _, _⟩ := ho1.cells
        have n5 := ho1.ne_blk bo1 (by decide)
        have co1 := bo1.cell
        have fo1 := bo1.frozen
        have BO1 := Lib.hid bo1
        have HO1 := Lib.hid ho1
        have HB1 := Lib.hid hb1
        have N5 := Lib.hid n5
        have K1 := Lib.hid k1
        simp only [List.length_map, List.length_range] at HO1 N5
        clear bo1 ho1 hb1 hg1 n5 k1
        go_wp2
        go_roundw
        case rel => exact ⟨k + 1, .slice A3 (k + 1) cap3, by omega, by go_num, gr_set HB1.out (by simp; omega) _, K1.out.set (.inl rfl) _, BO1.out.set _ _, HO1.out.other N5.out _⟩
        case measure => simp [intOf]; omega
      · obtain rfl : nD = k := by omega
        obtain ⟨A8, c8, rfl, hc8, _, _⟩ := hown.cells
        simp only [List.length_map, List.length_range] at HW hc8 FL
        obtain ⟨w4, rfl⟩ : ∃ w4 : World, w4 = wr := ⟨_, rfl⟩
        have VL4 := Lib.hid (VL2.out.kept1 hkp STF.out (by decide))
        have VS4 := Lib.hid (VS2.out.kept1 hkp STF.out (by decide))
        have VF4 := Lib.hid (VF2.out.kept1 hkp STF.out (by decide))
        have VD4 := Lib.hid HW.out.ints
        have PA4 := Lib.hid (PA2.out.kept1 hkp (by omega))
        have RE4 := Lib.hid (RE2.out.kept1 hkp (by omega))
        have STB4 := HBE
        have STF4 := FL
        have cp4 := PA4.out.cell 2
        have cp4' := PA4.out.cell
        have lp4 := PA4.out.lt
        have hs4 := hkp.size
        clear hb hkp hfl hown cp lp VL2 VS2 VF2 PA2 RE2 STB STF HBE KP FL HW cp4
        go_wp2
        go_loopw [39] (fun i wr => ∃ (k : Nat) (v : Value), k ≤ nN ∧ i = .int .i64 k ∧ Below w.heap.size w wr ∧ Kept1 w4 bf wr ∧ Blk wr bf #[.int .i64 W, .int .i64 H, .slice A2 nL c2, .slice A8 nD c8, v, .slice none 0 0, .slice A6 nS c6, .slice A7 nF c7] 43 ∧ Own wr w4.heap.size 64 3 v ((List.range k).map (hueC NX NY NZ))) (fun i _ => nN - (intOf i).toNat)
        case atStart => exact ⟨0, .slice none 0 0, by omega, rfl, STB4.out, Kept1.refl _ _, STF4.out, Own.nil _ _ _ _⟩
        case round =>
          obtain ⟨k, v, hk, rfl, hb, hkp, hfl, hown⟩ := hrel
          have l3 := hfl.lt
          have HBE := Lib.hid hb
          have KP := Lib.hid hkp
          have FL := Lib.hid hfl
          have HW := Lib.hid hown
          by_cases hlt : k < nN
          · obtain ⟨b, off, rfl, hcell⟩ := HN.out (by omega)
            obtain ⟨q0, q1, q2⟩ := hcell k hlt
            have c0 := cell_later hb q0
            have c1 := cell_later hb q1
            have c2' := cell_later hb q2
            have lb : b < wr.heap.size := World.block_lt_of_cell? _ _ c0
            obtain ⟨A', cap', rfl, hcap', _, _⟩ := hown.cells
            simp only [List.length_map, List.length_range] at HW hcap' FL
            have co := FL.out.cell 4
            simp at co
            have n1 := HW.out.ne_blk FL.out (by decide)
            have N1 := Lib.hid n1
            have lks := hkp.size
            have l3s : bf < wr.heap.size + 1 := by omega
            clear hcell q0 q1 q2 hb hkp hfl hown n1
            obtain ⟨wo, rfl⟩ : ∃ wo : World, wo = wr := ⟨_, rfl⟩
            go_wp2
            refine wp_region_earlyX 4 (by kernel_rfl) (by kernel_rfl) (by kernel_rfl) _ rfl rfl ?_
            apply Exists.intro
            refine ⟨fun xh => ?_, fun xt => ?_⟩
            · simp only [List.take_succ_cons, List.take_zero]
              repeat (go_big_quiet_step ((first | (go_at_call 23; exact Calls.grew _ (vto_any _ _ _ _)))))
              exact wpQuiet_nil rfl
            apply Exists.intro
            apply Exists.intro
            refine ⟨by go_simp; exact ⟨rfl, rfl⟩, gr_alloc (gr_refl _) _, fun yt => ?_⟩
            simp only [List.drop_succ_cons, List.drop_zero]
            have hxt := xt.size_val
            simp at hxt
            have hyt := yt.size_val
            simp at hyt
            have bnew : Blk yt.val xt.val.heap.size #[.int .i64 (NX k), .int .i64 (NY k), .int .i64 (NZ k)] 64 := (by repeat (first | assumption | (refine Blk.at_ _ _ ?_; simp; done) | refine Blk.alloc ?_ _ | refine Blk.drew ?_ | refine Blk.ext ?_ _ | exact Blk.set (by assumption) _ _ | (refine Blk.other ?_ ?_ _; rotate_left; (simp <;> omega))))
            have bgr : Below w.heap.size w yt.val := by have := HBE.out; exact (by repeat (first | assumption | exact gr_refl _ | refine gr_alloc ?_ _ | refine gr_drew ?_ | refine gr_drewN ?_ _ | refine gr_ext ?_ _ | (refine gr_set ?_ ?_ _; rotate_left; (simp <;> omega))))
            have own2 : Own yt.val w4.heap.size 64 3 (.slice A' k cap') ((List.range k).map (hueC NX NY NZ)) := (((HW.out.alloc _).ext xt).alloc _).ext yt
            have bo : Blk yt.val bf #[.int .i64 W, .int .i64 H, .slice A2 nL c2, .slice A8 nD c8, (.slice A' k cap'), .slice none 0 0, .slice A6 nS c6, .slice A7 nF c7] 43 := (((FL.out.alloc _).ext xt).alloc _).ext yt
            have kp2 : Kept1 w4 bf yt.val := (((KP.out.alloc _).ext xt).alloc _).ext yt
            go_wp2_with (at_builtin; refine own_append1 (w0 := w) rfl _ _ 41 rfl w4.heap.size 64 (.agg #[.int .i64 0, .int .i64 0, .int .i64 0]) 3 24 Tryd.underlying41 (by kernel_rfl) rfl (by omega) _ _ rfl own2 xt.val.heap.size [.int .i64 (NX k), .int .i64 (NY k), .int .i64 (NZ k)] rfl bnew rfl (by intro u hu; simp at hu; rcases hu with rfl | rfl | rfl <;> rfl) (by simp; omega) (by omega) bgr (by omega) (by omega) ?_)
            intro v' w9 ho1 hb1 hg1
            have d0 : hueC NX NY NZ k = [.int .i64 (NX k), .int .i64 (NY k), .int .i64 (NZ k)] := rfl
            rw [← d0, ← map_range_succ] at ho1
            have bo1 := bo.grown hg1 (Ne.symm N1.out)
            have k1 := kp2.grown hg1 (fun q hq => (HW.out.row.lt q hq).1)
            have lb1 := bo1.lt
            obtain ⟨A3, cap3, rfl, _, _, _⟩ := ho1.cells
            have n5 := ho1.ne_blk bo1 (by decide)
            have co1 := bo1.cell
            have fo1 := bo1.frozen
            have BO1 := Lib.hid bo1
            have HO1 := Lib.hid ho1
            have HB1 := Lib.hid hb1
            have N5 := Lib.hid n5
            have K1 := Lib.hid k1
            simp only [List.length_map, List.length_range] at HO1 N5
            clear bo1 ho1 hb1 hg1 n5 k1 bnew bgr own2 bo kp2 d0
            go_wp2
            go_roundw
            case rel => exact ⟨k + 1, .slice A3 (k + 1) cap3, by omega, by go_num, gr_set HB1.out (by simp; omega) _, K1.out.set (.inl rfl) _, BO1.out.set _ _, HO1.out.other N5.out _⟩
            case measure => simp [intOf]; omega
          · obtain rfl : nN = k := by omega
            obtain ⟨A9, c9, rfl, hc9, _, _⟩ := hown.cells
            simp only [List.length_map, List.length_range] at HW hc9 FL
            obtain ⟨w6, rfl⟩ : ∃ w6 : World, w6 = wr := ⟨_, rfl⟩
            have VL6 := Lib.hid (VL4.out.kept1 hkp STF4.out (by decide))
            have VS6 := Lib.hid (VS4.out.kept1 hkp STF4.out (by decide))
            have VF6 := Lib.hid (VF4.out.kept1 hkp STF4.out (by decide))
            have VD6 := Lib.hid (VD4.out.kept1 hkp STF4.out (by decide))
            have VN6 := Lib.hid HW.out.rowH
            have PA6 := Lib.hid (PA4.out.kept1 hkp (by omega))
            have RE6 := Lib.hid (RE4.out.kept1 hkp (by omega))
            have STB6 := HBE
            have STF6 := FL
            have cp6 := PA6.out.cell
            have lp6 := PA6.out.lt
            have hs6 := hkp.size
            clear hb hkp hfl hown cp4' lp4 VL4 VS4 VF4 VD4 PA4 RE4 STB4 STF4 HBE KP FL HW
            go_wp2
            go_loopw [54] (fun i wr => ∃ (k : Nat) (v : Value), k ≤ nB ∧ i = .int .i64 k ∧ Below w.heap.size w wr ∧ Kept1 w6 bf wr ∧ Blk wr bf #[.int .i64 W, .int .i64 H, .slice A2 nL c2, .slice A8 nD c8, .slice A9 nN c9, v, .slice A6 nS c6, .slice A7 nF c7] 43 ∧ Own wr w6.heap.size 58 3 v ((List.range k).map (hueC BR BG BB))) (fun i _ => nB - (intOf i).toNat)
            case atStart => exact ⟨0, .slice none 0 0, by omega, rfl, STB6.out, Kept1.refl _ _, STF6.out, Own.nil _ _ _ _⟩
            case round =>
              obtain ⟨k, v, hk, rfl, hb, hkp, hfl, hown⟩ := hrel
              have l3 := hfl.lt
              have HBE := Lib.hid hb
              have KP := Lib.hid hkp
              have FL := Lib.hid hfl
              have HW := Lib.hid hown
              by_cases hlt : k < nB
              · obtain ⟨b, off, rfl, hcell⟩ := HB.out (by omega)
                obtain ⟨q0, q1, q2⟩ := hcell k hlt
                have c0 := cell_later hb q0
                have c1 := cell_later hb q1
                have c2' := cell_later hb q2
                have lb : b < wr.heap.size := World.block_lt_of_cell? _ _ c0
                obtain ⟨A', cap', rfl, hcap', _, _⟩ := hown.cells
                simp only [List.length_map, List.length_range] at HW hcap' FL
                have co := FL.out.cell 5
                simp at co
                have n1 := HW.out.ne_blk FL.out (by decide)
                have N1 := Lib.hid n1
                have lks := hkp.size
                have l3s : bf < wr.heap.size + 1 := by omega
                clear hcell q0 q1 q2 hb hkp hfl hown n1
                obtain ⟨wo, rfl⟩ : ∃ wo : World, wo = wr := ⟨_, rfl⟩
                go_wp2
                refine wp_region_earlyX 4 (by kernel_rfl) (by kernel_rfl) (by kernel_rfl) _ rfl rfl ?_
                apply Exists.intro
                refine ⟨fun xh => ?_, fun xt => ?_⟩
                · simp only [List.take_succ_cons, List.take_zero]
                  repeat (go_big_quiet_step ((first | (go_at_call 17; exact Calls.grew _ (hto_any _ _ _ _)))))
                  exact wpQuiet_nil rfl
                apply Exists.intro
                apply Exists.intro
                refine ⟨by go_simp; exact ⟨rfl, rfl⟩, gr_alloc (gr_refl _) _, fun yt => ?_⟩
                simp only [List.drop_succ_cons, List.drop_zero]
                have hxt := xt.size_val
                simp at hxt
                have hyt := yt.size_val
                simp at hyt
                have bnew : Blk yt.val xt.val.heap.size #[.int .i64 (BR k), .int .i64 (BG k), .int .i64 (BB k)] 58 := (by repeat (first | assumption | (refine Blk.at_ _ _ ?_; simp; done) | refine Blk.alloc ?_ _ | refine Blk.drew ?_ | refine Blk.ext ?_ _ | exact Blk.set (by assumption) _ _ | (refine Blk.other ?_ ?_ _; rotate_left; (simp <;> omega))))
                have bgr : Below w.heap.size w yt.val := by have := HBE.out; exact (by repeat (first | assumption | exact gr_refl _ | refine gr_alloc ?_ _ | refine gr_drew ?_ | refine gr_drewN ?_ _ | refine gr_ext ?_ _ | (refine gr_set ?_ ?_ _; rotate_left; (simp <;> omega))))
                have own2 : Own yt.val w6.heap.size 58 3 (.slice A' k cap') ((List.range k).map (hueC BR BG BB)) := (((HW.out.alloc _).ext xt).alloc _).ext yt
                have bo : Blk yt.val bf #[.int .i64 W, .int .i64 H, .slice A2 nL c2, .slice A8 nD c8, .slice A9 nN c9, (.slice A' k cap'), .slice A6 nS c6, .slice A7 nF c7] 43 := (((FL.out.alloc _).ext xt).alloc _).ext yt
                have kp2 : Kept1 w6 bf yt.val := (((KP.out.alloc _).ext xt).alloc _).ext yt
                go_wp2_with (at_builtin; refine own_append1 (w0 := w) rfl _ _ 34 rfl w6.heap.size 58 (.agg #[.int .i64 0, .int .i64 0, .int .i64 0]) 3 24 Tryd.underlying34 (by kernel_rfl) rfl (by omega) _ _ rfl own2 xt.val.heap.size [.int .i64 (BR k), .int .i64 (BG k), .int .i64 (BB k)] rfl bnew rfl (by intro u hu; simp at hu; rcases hu with rfl | rfl | rfl <;> rfl) (by simp; omega) (by omega) bgr (by omega) (by omega) ?_)
                intro v' w9 ho1 hb1 hg1
                have d0 : hueC BR BG BB k = [.int .i64 (BR k), .int .i64 (BG k), .int .i64 (BB k)] := rfl
                rw [← d0, ← map_range_succ] at ho1
                have bo1 := bo.grown hg1 (Ne.symm N1.out)
                have k1 := kp2.grown hg1 (fun q hq => (HW.out.row.lt q hq).1)
                have lb1 := bo1.lt
                obtain ⟨A3, cap3, rfl, _, _, _⟩ := ho1.cells
                have n5 := ho1.ne_blk bo1 (by decide)
                have co1 := bo1.cell
                have fo1 := bo1.frozen
                have BO1 := Lib.hid bo1
                have HO1 := Lib.hid ho1
                have HB1 := Lib.hid hb1
                have N5 := Lib.hid n5
                have K1 := Lib.hid k1
                simp only [List.length_map, List.length_range] at HO1 N5
                clear bo1 ho1 hb1 hg1 n5 k1 bnew bgr own2 bo kp2 d0
                go_wp2
                go_roundw
                case rel => exact ⟨k + 1, .slice A3 (k + 1) cap3, by omega, by go_num, gr_set HB1.out (by simp; omega) _, K1.out.set (.inl rfl) _, BO1.out.set _ _, HO1.out.other N5.out _⟩
                case measure => simp [intOf]; omega
              · obtain rfl : nB = k := by omega
                obtain ⟨A10, c10, rfl, hc10, _, _⟩ := hown.cells
                simp only [List.length_map, List.length_range] at HW hc10 FL
                have VL8 := Lib.hid (VL6.out.kept1 hkp STF6.out (by decide))
                have VS8 := Lib.hid (VS6.out.kept1 hkp STF6.out (by decide))
                have VF8 := Lib.hid (VF6.out.kept1 hkp STF6.out (by decide))
                have VD8 := Lib.hid (VD6.out.kept1 hkp STF6.out (by decide))
                have VN8 := Lib.hid (VN6.out.kept1 hkp STF6.out (by decide))
                have VB8 := Lib.hid HW.out.rowH
                have RE8 := Lib.hid (RE6.out.kept1 hkp (by omega))
                have cf := FL.out.cell
                clear hb hkp hfl hown VL6 VS6 VF6 VD6 VN6 PA6 RE6 STB6 STF6 cp6 lp6
                have HBE8 := HBE
                clear KP FL HBE
                go_wp2_with (refine wpList_store_blk (w0 := w) rfl 43 _ _ rfl (w.heap.size + 1) _ rfl rfl 43 _ RE8.out (by kernel_rfl) (by kernel_rfl) (by kernel_rfl) HBE8.out (by omega) ?_)
                intro w9 hbl9 hbw9 hg9
                have k9 : Kept1 wr (w.heap.size + 1) w9 := ⟨hg9.size, fun b h1 h2 => hg9.block b h1 (by simpa using h2)⟩
                have HBL9 := Lib.hid hbl9
                have HBW9 := Lib.hid hbw9
                have K9 := Lib.hid k9
                clear hbl9 hbw9 hg9 k9
                go_wp2
                have k9 := K9.out
                refine bodyPost_ret (results_cell_blk rfl _ _ (w.heap.size + 1) 43 _ _ rfl HBL9.out Tryd.underlying43 rfl (by kernel_rfl)) rfl ⟨_, rfl, ⟨_, _, _, _, _, _, rfl, (VL8.out.kept1 k9 RE8.out (by decide)).1, VD8.out.kept1 k9 RE8.out (by decide), VN8.out.kept1 k9 RE8.out (by decide), VB8.out.kept1 k9 RE8.out (by decide), VS8.out.kept1 k9 RE8.out (by decide), VF8.out.kept1 k9 RE8.out (by decide)⟩, HBW9.out, fun x hx => by obtain rfl := Option.some.inj hx; exact VL8.out.2⟩
end Go.Proofs.YtneegcnidoopmaaDoor
