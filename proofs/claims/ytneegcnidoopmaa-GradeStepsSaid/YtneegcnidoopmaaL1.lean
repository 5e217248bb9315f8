/- GradeCurves: for every slice of pins and every place, the law answers true and leaves its input as it was. No conditions. -/
import Derived.Test.YtneegcnidoopmaaE
import Derived.Test.YtneegcnidoopmaaH
import Derived.Test.YtneegcnidoopmaaI
import Derived.Test.YtneegcnidoopmaaM
import Derived.Test.YtneegcnidoopmaaO
namespace Go.Proofs.Ytneegcnidoopmaa
open Go.RowKit

set_option maxHeartbeats 1000000 in
theorem curves_any (A : Option Addr) (n cap : Nat) (X Y : Nat → Int) (x : Int) (w : World) (hn : n ≤ 9223372036854775807) (hc : Cells2 w A n X Y) :
    Calls Try.prog 3 #[.slice A n cap, .int .i64 x] w fun e w' => e = .returned (.bool true) ∧ Grew w w' := by
  have HC := Lib.hid hc
  clear hc
  by_cases h40 : 40 < n
  ·
    go_enter Try.func3, Try.ntmps3
    go_wp2_with (go_at_call 10; refine (awake39_any _).mono ?_; rintro e w' ⟨rfl, x0, rfl⟩)
    go_ret
    exact ⟨rfl, Grew.of (by repeat (first | assumption | exact gr_refl _ | refine gr_alloc ?_ _ | refine gr_drew ?_ | refine gr_drewN ?_ _ | refine gr_ext ?_ _ | (refine gr_set ?_ ?_ _; rotate_left; (simp <;> omega))))⟩
  ·
    go_enter Try.func3, Try.ntmps3
    go_wp2_with fail
    refine (to_any A n cap X Y _ (by omega) HC.out).mono ?_
    rintro e w1 ⟨v, rfl, ho, hb⟩
    obtain ⟨A', cap', rfl, hcap, hc'⟩ := ho.pins
    have HB := Lib.hid hb
    have C1 := Lib.hid (HC.out.below hb)
    have D1 := Lib.hid hc'
    clear ho hb hc'
    go_wp2_with fail
    refine (awake39_any _).mono ?_
    rintro e w' ⟨rfl, x1, rfl⟩
    have C2 := Lib.hid (C1.out.ext x1)
    have D2 := Lib.hid (D1.out.ext x1)
    go_wp2_with fail
    refine (right_any A' n cap' X Y _ (by omega) D2.out).mono ?_
    rintro e w' ⟨rfl, x2, rfl⟩
    have C3 := Lib.hid (C2.out.ext x2)
    have D3 := Lib.hid (D2.out.ext x2)
    go_wp2_with fail
    refine (rright_any A n cap X Y _ (by omega) C3.out).mono ?_
    rintro e w' ⟨rfl, x3, rfl⟩
    have C4 := Lib.hid (C3.out.ext x3)
    have D4 := Lib.hid (D3.out.ext x3)
    generalize pinsB X Y n = b1
    go_wp2_with fail
    refine (at_any A' n cap' X Y x _ (by omega) hcap D4.out).mono ?_
    rintro e w' ⟨rfl, x4, rfl⟩
    have C5 := Lib.hid (C4.out.ext x4)
    have D5 := Lib.hid (D4.out.ext x4)
    go_wp2_with fail
    refine (rat_any A n cap X Y x _ (by omega) C5.out).mono ?_
    rintro e w' ⟨rfl, x5, rfl⟩
    have C6 := Lib.hid (C5.out.ext x5)
    have D6 := Lib.hid (D5.out.ext x5)
    generalize curveAt X Y n x = b2
    go_wp2_with fail
    refine (rises_any A' n cap' X Y _ (by omega) D6.out).mono ?_
    rintro e w' ⟨rfl, x6, rfl⟩
    have C7 := Lib.hid (C6.out.ext x6)
    go_wp2_with fail
    refine (rrises_any A n cap X Y _ (by omega) C7.out).mono ?_
    rintro e w' ⟨rfl, x7, rfl⟩
    generalize risesB X Y n = b3
    go_wp2
    go_ret
    exact ⟨rfl, Grew.of (by have := HB.out; exact (by repeat (first | assumption | exact gr_refl _ | refine gr_alloc ?_ _ | refine gr_drew ?_ | refine gr_drewN ?_ _ | refine gr_ext ?_ _ | (refine gr_set ?_ ?_ _; rotate_left; (simp <;> omega)))))⟩

theorem Try.own : ownKnob Try.prog.godebug = none := by kernel_rfl
theorem Try.laidOut : laidOutB Try.prog = true := by kernel_rfl
theorem pin_kinds : ∀ j, j < 2 → kindAt Try.prog 5 135 j = some .i64
  | 0, _ => by kernel_rfl
  | 1, _ => by kernel_rfl
  | j + 2, h => by omega
theorem pin_size : Try.prog.cellsOf 135 = 2 := by kernel_rfl
set_option maxRecDepth 100000 in
/-- A slice of pins that came in. -/
theorem open_pins {H : Type} {enc : TypeId × Value → H} {w : World} {base : Nat} {v : Value} {d : DataW H} {ps : List MemPlace} (hv : Value.okWide Try.prog w .any base 22 v)
    (h : DataW.Trod enc Try.prog w 0 (fun _ => true) true 22 v d ps) :
    ∃ (A : Option Addr) (n cap : Nat) (X Y : Nat → Int), v = .slice A n cap ∧ n ≤ 9223372036854775807 ∧ Cells2 w A n X Y := by
  obtain ⟨fuel, hf⟩ := h
  obtain ⟨a0, len, cap0, rfl⟩ := WideShapes.okWide_slice Try.underlying22 hv
  obtain ⟨A, n, cap, V, hv, h1, h2, _, hx⟩ := open_flat 5 2 (fun _ => .i64) Try.underlying22 pin_size pin_kinds (by omega) hf
  refine ⟨A, n, cap, fun i => V i 0, fun i => V i 1, (List.cons.inj (show [Value.slice a0 len cap0] = [Value.slice A n cap] from hv)).1, Nat.le_trans (Nat.le_trans h1 h2) maxLen_small, fun hn => ?_⟩
  obtain ⟨b, off, e, hc⟩ := hx hn
  exact ⟨b, off, e, fun i hi => ⟨hc i 0 hi (by omega), hc i 1 hi (by omega)⟩⟩

set_option maxRecDepth 100000 in
theorem curves_lifted (os : Os) (started : os.Started) (H : Type) (enc : TypeId × Value → H) :
    ReturnsInHanded {} Try.checked os 3 .any (Rows.gradeCurvesSpec.pre6 enc Try.prog Try.f3 [] false) (Rows.gradeCurvesSpec.post enc Try.prog Try.f3 false true false false) := by
  refine law_lift (C := Try.checked) Try.own started (by kernel_rfl) Try.func3
    (ChangeSpec.witness6 (enc := enc) (C := Try.checked) false ⟨#[], #[.slice none 0 0, .int .i64 0], []⟩ 8 (by kernel_rfl) (by kernel_rfl) (by kernel_rfl) (by kernel_rfl))
    rfl Try.underlying4 rfl Try.laidOut (by kernel_rfl) (fun ds hd => ?_) ?_
  · match ds, hd with
    | [d1, d2], _ => exact ⟨rfl, rfl, rfl⟩
  · intro W base args ds p hval0 hA0
    have hval : ∀ (j : Nat) t v, Try.f3.params[j]? = some t → args[j]? = some v → Value.okWide Try.prog W .any base t v := hval0
    have hA : DataW.TrodAll enc Try.prog W 0 (fun _ => true) true Try.f3.params.toList args.toList ds p := hA0
    rw [Try.params3] at hA hval
    obtain ⟨v0, v1, d0, d1, p0, p1, rfl, rfl, rfl, h0, h1⟩ := ChangeShapes.trodAll_two hA
    obtain ⟨A, n, cap, X, Y, rfl, hn, hc⟩ := open_pins (hval 0 _ v0 rfl rfl) h0
    obtain ⟨x, rfl, _, _, _⟩ := ChangeShapes.open_int Try.underlying2 (hval 1 _ v1 rfl rfl) h1
    exact curves_any A n cap X Y x W hn hc

theorem GradeCurves_holds : Rows.GradeCurvesSaid :=
  OpenClaim.holds_of_wide 3 Try.f3 rfl rfl rfl rfl rfl rfl rfl ⟨rfl, rfl, rfl, rfl, rfl⟩ rfl rfl rfl rfl rfl (by kernel_rfl) Try.func3 (by kernel_rfl)
    (of_decide_eq_true (by kernel_rfl)) (by unfold Func.isWrapper; rw [if_neg (of_decide_eq_false (by kernel_rfl))]; exact ⟨rfl, rfl⟩)
    (fun os started H enc _ => curves_lifted os started H enc)
#print axioms GradeCurves_holds
end Go.Proofs.Ytneegcnidoopmaa
