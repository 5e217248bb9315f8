/- LaceFlat: the claim. No conditions. -/
import Derived.Test.YtneegcnidoopmaaDoorLx
import Derived.Test.YtneegcnidoopmaaDoorCl
import Derived.Test.YtneegcnidoopmaaDoorTie
import Derived.Test.YtneegcnidoopmaaDoorCards
import Derived.SevenTiedAt
namespace Go.Proofs.YtneegcnidoopmaaDoor
open Go.ChangeShapes Go.RowKit

set_option maxRecDepth 100000 in
theorem laceFlat_lifted (os : Os) (started : os.Started) (H : Type) (enc : TypeId × Value → H) :
    ReturnsInHanded {} Tryd.checked os 5 .any (fun w args => (Rows.laceFlatSpec.pre enc Tryd.prog Tryd.f5 [] false w args ∧ laidMetH Tryd.prog [("zoetrope/lace.taps", Rows.laid_zoetrope_lace_taps)] w) ∧ sizedMet enc Tryd.prog Tryd.f5 (OpenSpec.ofChange Rows.laceFlatSpec) false w args)
      (Rows.laceFlatSpec.post enc Tryd.prog Tryd.f5 false true false false) := by
  refine law_liftL (C := Tryd.checked) (X := fun w => laidMetH Tryd.prog [("zoetrope/lace.taps", Rows.laid_zoetrope_lace_taps)] w) (fun _ _ hh h => h.of_heap hh) Tryd.own started (by kernel_rfl) Tryd.func5
    (ChangeSpec.witness_at (enc := enc) (C := Tryd.checked) (os := os) (X := fun w _ => laidMetH Tryd.prog [("zoetrope/lace.taps", Rows.laid_zoetrope_lace_taps)] w) false (laidWorld os) #[.agg #[.int .i64 0, .int .i64 0, .slice none 0 0, .slice none 0 0, .slice none 0 0, .slice none 0 0, .slice none 0 0, .slice none 0 0], .agg #[.int .i64 0, .int .i64 0, .int .i64 0]] 8 rfl (by kernel_rfl) (by kernel_rfl) (by kernel_rfl) (by kernel_rfl) (by kernel_rfl) (laidWorld_met os _))
    rfl Tryd.underlying4 rfl (by kernel_rfl) Tryd.laidOut (by kernel_rfl) (fun ds hd => ?_) ?_
  · match ds, hd with
    | [d1, d2], _ => exact ⟨rfl, rfl, rfl⟩
  · intro W base args ds p hval0 hA0 hsz0 hX
    have hval : ∀ (j : Nat) t v, Tryd.f5.params[j]? = some t → args[j]? = some v → Value.okWide Tryd.prog W .any base t v := hval0
    have hA : DataW.TrodAll enc Tryd.prog W 0 (fun _ => true) true Tryd.f5.params.toList args.toList ds p := hA0
    have hsz : (DataW.weightsEach Tryd.prog Tryd.f5.params.toList ds).all (· ≤ reachBytes) = true := hsz0
    rw [Tryd.params5] at hA hval hsz
    have hT := taps_laid hX
    obtain ⟨v0, v1, d0, d1, p0, p1, rfl, rfl, rfl, h0, h1⟩ := ChangeShapes.trodAll_two hA
    obtain ⟨PW, PH, AL, AD, AN, AB, AS, AF, nL, cL, nD, cD, nN, cN, nB, cB, nS, cS, nF, cF, R, G, B, D, NX, NY, NZ, BR, BG, BB, S, F, rfl, rD, rN, rB, rS, rF, hL, hD, hN, hB, hS, hF, nilS, nilF⟩ := open_film h0 (weights_at hsz 0 rfl rfl)
    obtain ⟨z, rfl, _⟩ := open_hue h1
    exact flat_law PW PH AL AD AN AB AS AF nL cL nD cD nN cN nB cB nS cS nF cF R G B D NX NY NZ BR BG BB S F z W rD rN rB rS rF hT hL hD hN hB hS hF nilS nilF

theorem LaceFlat_holds : Rows.LaceFlatSaid :=
  OpenClaim.holds_of_wide 5 Tryd.f5 rfl rfl rfl rfl rfl rfl rfl ⟨rfl, rfl, rfl, rfl, rfl⟩ rfl rfl rfl rfl rfl (by kernel_rfl) Tryd.func5 (by kernel_rfl)
    (of_decide_eq_true (by kernel_rfl)) (by unfold Func.isWrapper; rw [if_neg (of_decide_eq_false (by kernel_rfl))]; exact ⟨rfl, rfl⟩)
    (fun os started H enc _ => laceFlat_lifted os started H enc)
theorem LaceFlat_card : Rows.LaceFlatCardSaid :=
  Claim7.holds_tied_plain_at .later [] [.data] true (true, "73c9a945d78aa1315053beefce8d5b61b73c1b76f2f6988a45b66949fed7e868") false
    LaceFlat_holds (fun _ h => by cases h) (by kernel_rfl) (fun _ h => by cases h) laceFlat_row_tie rfl ⟨rfl, rfl⟩ (by kernel_rfl) rfl
    (fun f fn hf hfn => by
      obtain rfl : f = 5 := (Option.some.inj ((show Tryd.prog.funcNamed "zoetrope/zoetropelaw20.LaceFlat" = some 5 by kernel_rfl).symm.trans hf)).symm
      obtain rfl : fn = Tryd.f5 := (Option.some.inj (Tryd.func5.symm.trans hfn)).symm
      refine ⟨by kernel_rfl, fun j t ht => ?_⟩
      rw [Tryd.params5] at ht
      have hm := Array.mem_of_getElem? ht
      simp only [List.mem_toArray, List.mem_cons, List.not_mem_nil, or_false] at hm
      rcases hm with rfl | rfl
      all_goals first | exact (show Tryd.prog.wantsStandIn 29 = false by kernel_rfl) | exact (show Tryd.prog.wantsStandIn 54 = false by kernel_rfl))
    (by kernel_rfl)
#print axioms LaceFlat_card
end Go.Proofs.YtneegcnidoopmaaDoor
