/- A word on arrays as values, indexed. -/
import Derived.Test.YtfjkbabeceaelaaKit
import Derived.Test.YtfjkbabeceaelaaProg
import Derived.Outline
import Derived.Laws.Rows
import Derived.Laws.Tables
set_option linter.unusedVariables false
set_option linter.unusedSimpArgs false
namespace Go.Proofs.Ytfjkbabeceaelaa.ShaStep
open Go Go.RowKit Go.Proofs.Ytfjkbabeceaelaa.K

theorem index_arr {t e : TypeId} {n : Nat} {P : Program} {cs : Array Value} {v : Value} {k : Nat} (w : World) (hu : P.underlying t = some (.array n e)) (hs : (P.info? e).map (·.size) = some 1) (ha : (isAgg e).run P w = .ok false w) (hk : k < n) (hv : cs[k]? = some v) :
    (Instr.index t (.agg cs) (.int .i64 (k : Int))).run P w = .ok v w := by
  have hn : (0 ≤ (k : Int) ∧ (k : Int) < (n : Int)) := by omega
  cases hq : P.info? e with
  | none => simp [hq] at hs
  | some i =>
    have hi : i.size = 1 := by simpa [hq] using hs
    simp [Instr.index, run_underlying hu, asIntOf, hn, hk, go_sem, sizeOf, typeInfo, hq, hi, ha, hv]

end Go.Proofs.Ytfjkbabeceaelaa.ShaStep
