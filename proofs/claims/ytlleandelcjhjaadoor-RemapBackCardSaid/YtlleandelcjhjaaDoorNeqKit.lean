/- '!=' of two aggregates as a step of a region that is not drawn. -/
import Derived.Test.YtlleandelcjhjaaDoorEqlKit
import Derived.Test.YtlleandelcjhjaaDoorDiskSame
set_option maxRecDepth 100000
set_option linter.unusedVariables false
set_option linter.unusedSimpArgs false
namespace Go.Proofs.YtlleandelcjhjaaDoor.NeqKit
open Go Go.RowKit Go.Proofs.YtlleandelcjhjaaDoor.K Go.Proofs.YtlleandelcjhjaaDoor.EqKit Go.Proofs.YtlleandelcjhjaaDoor.ArrKit Go.Proofs.YtlleandelcjhjaaDoor.HeldKit Go.Proofs.YtlleandelcjhjaaDoor.GKit Go.Proofs.YtlleandelcjhjaaDoor.GRow Go.Proofs.YtlleandelcjhjaaDoor.DiskKit Go.Proofs.YtlleandelcjhjaaDoor.DiskNew

theorem wpList_neq_g {P : Program} {ops : Array Oper} {rest : List Oper} {o : Oper} {a : Act} {w : World} {Q : Exit → Act → World → Prop} (hw : Region.wanted o (yielded ops a.tmps) = true) {t u : TypeId} {x y : Operand} (ho : o.op = .binOp .neq t x y u)
    {X Y : Array Value} {b : Bool} (hx : a.eval x = .agg X) (hy : a.eval y = .agg Y) (hm : P.eqGuardType P.depth t = false) (heq : ∀ W, (Op.equalIn 10000 t (.agg X) (.agg Y)).run P W = .ok b W)
    (h : wpList P ops Q rest (a.put o.dst (.bool (!b))) w) : wpList P ops Q (o :: rest) a w := by
  unfold wpList
  rw [if_pos hw]
  refine Or.inl ?_
  unfold Oper.wp
  rw [Go.Proofs.YtlleandelcjhjaaDoor.DiskSame.run_neq_op ho hx hy hm heq w]
  exact h

end Go.Proofs.YtlleandelcjhjaaDoor.NeqKit
