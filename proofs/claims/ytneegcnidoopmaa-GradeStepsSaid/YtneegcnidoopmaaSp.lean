/- Contract of law39.step: a step, as a function value that does it. Conditions: the pins lie behind the slice. -/
import Derived.Test.YtneegcnidoopmaaTh
import Derived.Test.YtneegcnidoopmaaSh
import Derived.Test.YtneegcnidoopmaaSu
namespace Go.Proofs.Ytneegcnidoopmaa
open Go.RowKit

theorem enter_of {P : Program} {f : FuncId} {fn : Func} {c : Code} (hf : P.funcs[f]? = some fn) (hname : (fn.name == "runtime.NumGoroutine") = false) (hb : fn.body = some c) (args : Array Value) (w : World) : (callFunc f args).run P w = .ok (.enter f args) w := by
  have h1 : fn.name ≠ "runtime.NumGoroutine" := by simpa using hname
  simp [callFunc, hf, h1, hb]
structure Stp where
  kind : Int
  X : Nat → Int
  Y : Nat → Int
  n : Nat
  a : Int
  b : Int
  t0 : Int
  t1 : Int
  t2 : Int
structure Tri where
  r : Int
  g : Int
  b : Int
noncomputable def Stp.on (s : Stp) (h : Tri) : Tri :=
  ⟨stepF s.kind s.X s.Y s.n s.a s.b s.t0 h.r (lumaF h.r h.g h.b), stepF s.kind s.X s.Y s.n s.a s.b s.t1 h.g (lumaF h.r h.g h.b), stepF s.kind s.X s.Y s.n s.a s.b s.t2 h.b (lumaF h.r h.g h.b)⟩
def Tri.v (h : Tri) : Value := .agg #[.int .i64 h.r, .int .i64 h.g, .int .i64 h.b]
/-- k steps, one behind the other. -/
noncomputable def chainF (L : Nat → Stp) (h : Tri) : Nat → Tri
  | 0 => h
  | k + 1 => (L k).on (chainF L h k)
/-- All that is not a row of type T is as it was. -/
structure Apart (T : TypeId) (w w' : World) : Prop where
  size : w.heap.size ≤ w'.heap.size
  block : ∀ (b : Nat) (c : Array Value) (t : TypeId) (fr : Nat × Nat), w.heap[b]? = some (Obj.cells c t fr) → t ≠ T → w'.heap[b]? = some (Obj.cells c t fr)
theorem Apart.trans {T : TypeId} {w w1 w2 : World} (h : Apart T w w1) (k : Apart T w1 w2) : Apart T w w2 := ⟨Nat.le_trans h.size k.size, fun b c t fr hb ht => k.block b c t fr (h.block b c t fr hb ht) ht⟩
theorem Apart.of {T : TypeId} {w w1 : World} (h : Below w.heap.size w w1) : Apart T w w1 := ⟨h.size, fun b c t fr hb _ => (h.block b (Array.getElem?_eq_some_iff.1 hb).1).trans hb⟩
theorem Apart.grown {T : TypeId} {w w1 : World} {base sz : Nat} {v : Value} {els : List (List Value)} (ho : Own w base T sz v els) (hg : w.grownBy w1 v.ownBlock) : Apart T w w1 := by
  refine ⟨hg.size, fun b c t fr hb ht => (hg.block b (Array.getElem?_eq_some_iff.1 hb).1 fun e => ?_).trans hb⟩
  rcases ho.row.2 with ⟨rfl, _⟩ | ⟨g, cap, cur, rfl, _, hh, _⟩
  · simp [Value.ownBlock] at e
  · have : g = b := by simpa [Value.ownBlock] using e.symm
    subst this
    rw [hh] at hb
    injection hb with hb
    injection hb with _ hb
    exact ht hb.symm
theorem Blk.apart {T0 : TypeId} {w w' : World} {b : Nat} {c : Array Value} {T : TypeId} (h : Blk w b c T) (ha : Apart T0 w w') (ht : T ≠ T0) : Blk w' b c T := ⟨ha.block _ _ _ _ h.heap ht⟩
theorem Cells2.apart {T0 T : TypeId} {w w' : World} {A : Option Addr} {n : Nat} {X Y : Nat → Int} (h : Cells2 w A n X Y) (hy : TypedA w A T) (ha : Apart T0 w w') (ht : T ≠ T0) : Cells2 w' A n X Y := by
  intro hn
  obtain ⟨b, off, e, hc⟩ := h hn
  obtain ⟨c, fr, hb⟩ := hy _ e
  have hb' := ha.block _ _ _ _ hb ht
  have key : ∀ o, w'.cell? ⟨b, o, none⟩ = w.cell? ⟨b, o, none⟩ := fun o => World.cell?_of_block (a := ⟨b, o, none⟩) (by rw [hb, hb'])
  exact ⟨b, off, e, fun i hi => ⟨(key _).trans (hc i hi).1, (key _).trans (hc i hi).2⟩⟩
/-- A function value that does f to a light, in every world that has what w has. -/
def FuncAt (w : World) (v : Value) (f : Tri → Tri) : Prop :=
  ∃ G caps, v = .func (.func G) #[] caps ∧ (∀ args wz, (callFunc G args).run Try.prog wz = .ok (.enter G args) wz) ∧ ∀ (w' : World) (h : Tri), Below w.heap.size w w' → Calls Try.prog G (#[h.v] ++ caps) w' fun e w'' => e = .returned (f h).v ∧ Grew w' w''
def StepAt (w : World) (v : Value) (f : Tri → Tri) : Prop := (v = .nilFunc ∧ ∀ h, f h = h) ∨ FuncAt w v f
theorem FuncAt.below {w w1 : World} {v : Value} {f : Tri → Tri} (h : FuncAt w v f) (hb : Below w.heap.size w w1) : FuncAt w1 v f := by
  obtain ⟨G, caps, e, he, hc⟩ := h
  exact ⟨G, caps, e, he, fun w' t hb' => hc w' t (gr_below hb hb')⟩
theorem StepAt.below {w w1 : World} {v : Value} {f : Tri → Tri} (h : StepAt w v f) (hb : Below w.heap.size w w1) : StepAt w1 v f := by
  rcases h with h | h
  · exact .inl h
  · exact .inr (h.below hb)
theorem StepAt.one {w : World} {v : Value} {f : Tri → Tri} (h : StepAt w v f) : v.oneCell' = true := by
  rcases h with ⟨rfl, _⟩ | ⟨G, caps, rfl, _⟩ <;> rfl
/-- The same, where rows of function values may change. -/
def StepAtT (w : World) (v : Value) (f : Tri → Tri) : Prop := (v = .nilFunc ∧ ∀ h, f h = h) ∨
  ∃ G caps, v = .func (.func G) #[] caps ∧ (∀ args wz, (callFunc G args).run Try.prog wz = .ok (.enter G args) wz) ∧ ∀ (w' : World) (h : Tri), Apart 69 w w' → Calls Try.prog G (#[h.v] ++ caps) w' fun e w'' => e = .returned (f h).v ∧ Grew w' w''
theorem StepAtT.apart {w w1 : World} {v : Value} {f : Tri → Tri} (h : StepAtT w v f) (hb : Apart 69 w w1) : StepAtT w1 v f := by
  rcases h with h | ⟨G, caps, e, he, hc⟩
  · exact .inl h
  · exact .inr ⟨G, caps, e, he, fun w' t hb' => hc w' t (hb.trans hb')⟩
theorem StepAtT.weak {w : World} {v : Value} {f : Tri → Tri} (h : StepAtT w v f) : StepAt w v f := by
  rcases h with h | ⟨G, caps, e, he, hc⟩
  · exact .inl h
  · exact .inr ⟨G, caps, e, he, fun w' t hb' => hc w' t (Apart.of hb')⟩
theorem StepAtT.shape {w : World} {v : Value} {f : Tri → Tri} (h : StepAtT w v f) : v = .nilFunc ∨ ∃ G caps, v = .func (.func G) #[] caps := by
  rcases h with ⟨rfl, _⟩ | ⟨G, caps, rfl, _⟩
  · exact .inl rfl
  · exact .inr ⟨G, caps, rfl⟩

theorem on0 (s : Stp) (k : s.kind = 0) (h : Tri) : s.on h = ⟨curveAt s.X s.Y s.n h.r, curveAt s.X s.Y s.n h.g, curveAt s.X s.Y s.n h.b⟩ := by simp [Stp.on, stepF, k]
theorem on1 (s : Stp) (k : s.kind = 1) (h : Tri) : s.on h = ⟨mulF h.r s.a, mulF h.g s.a, mulF h.b s.a⟩ := by simp [Stp.on, stepF, k]
theorem on2 (s : Stp) (k : s.kind = 2) (h : Tri) : s.on h = ⟨mulF h.r s.t0, mulF h.g s.t1, mulF h.b s.t2⟩ := by simp [Stp.on, stepF, k]
theorem on3 (s : Stp) (k : s.kind = 3) (h : Tri) : s.on h = ⟨lerpF h.r (lumaF h.r h.g h.b) s.a, lerpF h.g (lumaF h.r h.g h.b) s.a, lerpF h.b (lumaF h.r h.g h.b) s.a⟩ := by simp [Stp.on, stepF, k]
theorem on4 (s : Stp) (k : s.kind = 4) (h : Tri) : s.on h = ⟨addF s.a (mulF (subF h.r s.a) s.b), addF s.a (mulF (subF h.g s.a) s.b), addF s.a (mulF (subF h.b s.a) s.b)⟩ := by simp [Stp.on, stepF, k]
theorem on9 (s : Stp) (k0 : s.kind ≠ 0) (k1 : s.kind ≠ 1) (k2 : s.kind ≠ 2) (k3 : s.kind ≠ 3) (k4 : s.kind ≠ 4) (h : Tri) : s.on h = h := by
  unfold Stp.on stepF
  rw [if_neg k0, if_neg k1, if_neg k2, if_neg k3, if_neg k4, if_neg k0, if_neg k1, if_neg k2, if_neg k3, if_neg k4, if_neg k0, if_neg k1, if_neg k2, if_neg k3, if_neg k4]

/-- A step comes back. -/
def RetStep (w : World) (s : Stp) (e : Ending) (w' : World) : Prop := ∃ v, e = .returned v ∧ StepAtT w' v s.on ∧ Grew w w'

theorem at_through {w : World} {s : Stp} {p : Nat} {A : Option Addr} {cap : Nat} (k : s.kind = 0) (hp : Blk w p #[.slice A s.n cap] 25) (hcap : s.n ≤ cap) (hn : s.n ≤ 1000000) (hc : Cells2 w A s.n s.X s.Y) (hy : TypedA w A 132) :
    StepAtT w (.func (.func 106) #[] #[.pointer (some ⟨p, 0, none⟩)]) s.on :=
  .inr ⟨_, _, rfl, enter_of Try.func106 (by kernel_rfl) rfl, fun w' h hb => (through1_any h.r h.g h.b A s.n cap s.X s.Y p w' ((hp.apart hb (by decide)).cell 0) (by omega) hcap (hc.apart hy hb (by decide))).mono fun e w'' ⟨he, hg⟩ => ⟨by rw [he, on0 s k]; rfl, hg⟩⟩
theorem at_expose {w : World} {s : Stp} {p : Nat} (k : s.kind = 1) (hp : Blk w p #[.int .i64 s.a] 28) : StepAtT w (.func (.func 107) #[] #[.pointer (some ⟨p, 0, none⟩)]) s.on :=
  .inr ⟨_, _, rfl, enter_of Try.func107 (by kernel_rfl) rfl, fun w' h hb => (expose1_any h.r h.g h.b s.a p w' ((hp.apart hb (by decide)).cell 0)).mono fun e w'' ⟨he, hg⟩ => ⟨by rw [he, on1 s k]; rfl, hg⟩⟩
theorem at_tint {w : World} {s : Stp} {p : Nat} (k : s.kind = 2) (hp : Blk w p #[.int .i64 s.t0, .int .i64 s.t1, .int .i64 s.t2] 151) : StepAtT w (.func (.func 109) #[] #[.pointer (some ⟨p, 0, none⟩)]) s.on :=
  .inr ⟨_, _, rfl, enter_of Try.func109 (by kernel_rfl) rfl, fun w' h hb => (tint1_any h.r h.g h.b s.t0 s.t1 s.t2 p w' ((hp.apart hb (by decide)).cell 0) ((hp.apart hb (by decide)).cell 1) ((hp.apart hb (by decide)).cell 2)).mono fun e w'' ⟨he, hg⟩ => ⟨by rw [he, on2 s k]; rfl, hg⟩⟩
theorem at_fade {w : World} {s : Stp} {p : Nat} (k : s.kind = 3) (hp : Blk w p #[.int .i64 s.a] 28) : StepAtT w (.func (.func 111) #[] #[.pointer (some ⟨p, 0, none⟩)]) s.on :=
  .inr ⟨_, _, rfl, enter_of Try.func111 (by kernel_rfl) rfl, fun w' h hb => (fade1_any h.r h.g h.b s.a p w' ((hp.apart hb (by decide)).cell 0)).mono fun e w'' ⟨he, hg⟩ => ⟨by rw [he, on3 s k]; rfl, hg⟩⟩
theorem at_contrast {w : World} {s : Stp} {p q : Nat} (k : s.kind = 4) (hp : Blk w p #[.int .i64 s.a, .int .i64 s.a, .int .i64 s.a] 151) (hq : Blk w q #[.int .i64 s.b] 28) : StepAtT w (.func (.func 115) #[] #[.pointer (some ⟨p, 0, none⟩), .pointer (some ⟨q, 0, none⟩)]) s.on :=
  .inr ⟨_, _, rfl, enter_of Try.func115 (by kernel_rfl) rfl, fun w' h hb => (contrast1_any h.r h.g h.b s.a s.b p q w' ((hp.apart hb (by decide)).cell 0) ((hp.apart hb (by decide)).cell 1) ((hp.apart hb (by decide)).cell 2) ((hq.apart hb (by decide)).cell 0)).mono fun e w'' ⟨he, hg⟩ => ⟨by rw [he, on4 s k]; rfl, hg⟩⟩

set_option maxHeartbeats 2000000 in
theorem step_any (s : Stp) (A : Option Addr) (cap : Nat) (w : World) (hn : s.n ≤ 1000000) (hc : Cells2 w A s.n s.X s.Y) :
    Calls Try.prog 31 #[.agg #[.int .i64 s.kind, .slice A s.n cap, .int .i64 s.a, .int .i64 s.b, .int .i64 s.t0, .int .i64 s.t1, .int .i64 s.t2]] w (RetStep w s) := by
  have HC := Lib.hid hc
  clear hc
  by_cases k0 : s.kind = 0
  · have K0 := Lib.hid k0
    rw [k0]
    clear k0
    go_enter Try.func31, Try.ntmps31
    go_wp2_with fail
    refine (to_any A s.n cap s.X s.Y _ hn (HC.out.below (by repeat (first | assumption | exact gr_refl _ | refine gr_alloc ?_ _ | refine gr_drew ?_ | refine gr_drewN ?_ _ | refine gr_ext ?_ _ | (refine gr_set ?_ ?_ _; rotate_left; (simp <;> omega)))))).mono ?_
    rintro e w1 ⟨v, rfl, ho, hb⟩
    obtain ⟨A', cap', rfl, hcap, hc'⟩ := ho.pins
    have hnil := fun hA => ho.nils hA
    have HB := Lib.hid hb
    have HN := Lib.hid hnil
    have D1 := Lib.hid hc'
    clear ho hb hc' hnil
    go_wp2_with fail
    refine (through_any A' s.n cap' s.X s.Y _ hn HN.out D1.out).mono ?_
    rintro e w2 ⟨p, A2, cap2, rfl, hp, hcap2, hc2, hy2, x2, rfl⟩
    have HP := Lib.hid hp
    clear hp
    go_wp2
    go_ret
    exact ⟨_, rfl, at_through K0.out HP.out hcap2 hn hc2 hy2, Grew.of (gr_ext (gr_below (by repeat (first | assumption | exact gr_refl _ | refine gr_alloc ?_ _ | refine gr_drew ?_ | refine gr_drewN ?_ _ | refine gr_ext ?_ _ | (refine gr_set ?_ ?_ _; rotate_left; (simp <;> omega)))) HB.out) x2)⟩
  by_cases k1 : s.kind = 1
  · have K1 := Lib.hid k1
    rw [k1]
    clear k0 k1
    go_enter Try.func31, Try.ntmps31
    go_wp2_with fail
    refine (expose_any _ _).mono ?_
    rintro e w2 ⟨rfl, hp, x2, rfl⟩
    simp at hp
    have HP := Lib.hid hp
    clear hp
    go_wp2
    go_ret
    exact ⟨_, rfl, at_expose K1.out HP.out, Grew.of (by repeat (first | assumption | exact gr_refl _ | refine gr_alloc ?_ _ | refine gr_drew ?_ | refine gr_drewN ?_ _ | refine gr_ext ?_ _ | (refine gr_set ?_ ?_ _; rotate_left; (simp <;> omega))))⟩
  by_cases k2 : s.kind = 2
  · have K2 := Lib.hid k2
    rw [k2]
    clear k0 k1 k2
    go_enter Try.func31, Try.ntmps31
    go_wp2_with fail
    refine (hto_any _ _ _ _).mono ?_
    rintro e w1 ⟨rfl, x1, rfl⟩
    go_wp2_with fail
    refine (tint_any _ _ _ _).mono ?_
    rintro e w2 ⟨rfl, hp, x2, rfl⟩
    have HP := Lib.hid hp
    clear hp
    go_wp2
    go_ret
    exact ⟨_, rfl, at_tint K2.out HP.out, Grew.of (by repeat (first | assumption | exact gr_refl _ | refine gr_alloc ?_ _ | refine gr_drew ?_ | refine gr_drewN ?_ _ | refine gr_ext ?_ _ | (refine gr_set ?_ ?_ _; rotate_left; (simp <;> omega))))⟩
  by_cases k3 : s.kind = 3
  · have K3 := Lib.hid k3
    rw [k3]
    clear k0 k1 k2 k3
    go_enter Try.func31, Try.ntmps31
    go_wp2_with fail
    refine (fade_any _ _).mono ?_
    rintro e w2 ⟨rfl, hp, x2, rfl⟩
    simp at hp
    have HP := Lib.hid hp
    clear hp
    go_wp2
    go_ret
    exact ⟨_, rfl, at_fade K3.out HP.out, Grew.of (by repeat (first | assumption | exact gr_refl _ | refine gr_alloc ?_ _ | refine gr_drew ?_ | refine gr_drewN ?_ _ | refine gr_ext ?_ _ | (refine gr_set ?_ ?_ _; rotate_left; (simp <;> omega))))⟩
  by_cases k4 : s.kind = 4
  · have K4 := Lib.hid k4
    rw [k4]
    clear k0 k1 k2 k3 k4
    go_enter Try.func31, Try.ntmps31
    go_wp2_with fail
    refine (contrast_any _ _ _).mono ?_
    rintro e w2 ⟨q, rfl, hp, hq, x2, rfl⟩
    simp at hq
    have HP := Lib.hid hp
    have HQ := Lib.hid hq
    clear hp hq
    go_wp2
    go_ret
    exact ⟨_, rfl, at_contrast K4.out HP.out HQ.out, Grew.of (by repeat (first | assumption | exact gr_refl _ | refine gr_alloc ?_ _ | refine gr_drew ?_ | refine gr_drewN ?_ _ | refine gr_ext ?_ _ | (refine gr_set ?_ ?_ _; rotate_left; (simp <;> omega))))⟩
  · have K := Lib.hid (on9 s k0 k1 k2 k3 k4)
    go_enter Try.func31, Try.ntmps31
    go_wp2
    go_ret
    exact ⟨_, rfl, .inl ⟨rfl, K.out⟩, Grew.of (by repeat (first | assumption | exact gr_refl _ | refine gr_alloc ?_ _ | refine gr_drew ?_ | refine gr_drewN ?_ _ | refine gr_ext ?_ _ | (refine gr_set ?_ ?_ _; rotate_left; (simp <;> omega))))⟩
end Go.Proofs.Ytneegcnidoopmaa
