/- Contracts of fix.Lerp, ref01.Lerp. No conditions. -/
import Derived.Test.YtneegcnidoopmaaDoorFy
namespace Go.Proofs.YtneegcnidoopmaaDoor
open Go.RowKit

theorem lerp_bd (a b t : Int) : -1125899906842624 ≤ (held b - held a) * unitF t ∧ (held b - held a) * unitF t ≤ 1125899906842624 := by
  have ha := held_bd a
  have hb := held_bd b
  have ht := unitF_bd t
  have := abs_mul_le (a := held b - held a) (b := unitF t) (A := 4294967296) (B := 65536) (by omega) (by omega) (by omega) (by omega)
  omega
end Go.Proofs.YtneegcnidoopmaaDoor
