/- '==' and '!=' on arrays of three whole numbers. No conditions but the types named. -/
import Derived.Test.YtneegcnidoopmaaDoorQt
namespace Go.Proofs.YtneegcnidoopmaaDoor
open Go.RowKit

theorem run_equalIn_array3 {P : Program} (w : World) (d : Nat) (t e : TypeId) (k : IntKind) (a b c a' b' c' : Int) (ht : P.underlying t = some (.array 3 e)) (he : P.underlying e = some (.int k)) (hi : (P.info? e).map (·.size) = some 1) :
    (Op.equalIn (d + 1 + 1) t (.agg #[.int k a, .int k b, .int k c]) (.agg #[.int k a', .int k b', .int k c'])).run P w = .ok (a == a' && (b == b' && c == c')) w := by
  obtain ⟨i, hi1, hi2⟩ := Option.map_eq_some_iff.1 hi
  have hp : ∀ (cs : Array Value) (o : Nat) (v : Value), cs[o]? = some v → (part e cs o).run P w = .ok v w := by
    intro cs o v h
    simp [part, isAgg, run_underlying he, h]
  rw [Op.equalIn]
  simp only [Sem.run_bind, run_underlying ht, Result.andThen_ok, sizeOf, typeInfo, Sem.run_pure]
  simp only [run_program, hi1, hi2, Result.andThen_ok, Sem.run_pure]
  rw [Std.Legacy.Range.forIn_eq_forIn_range']
  simp only [Std.Legacy.Range.size, Nat.sub_zero, Nat.add_sub_cancel, Nat.div_one, List.range'_succ, List.range'_zero, Nat.zero_add, Nat.reduceAdd, List.forIn_cons, List.forIn_nil, Nat.mul_one]
  simp [hp, he, run_equalIn_int]
  by_cases h1 : a = a' <;> by_cases h2 : b = b' <;> by_cases h3 : c = c' <;> simp [h1, h2, h3]
end Go.Proofs.YtneegcnidoopmaaDoor
