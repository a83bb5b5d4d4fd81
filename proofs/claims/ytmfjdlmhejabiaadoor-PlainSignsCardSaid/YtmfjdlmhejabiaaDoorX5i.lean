/- An array of strings, indexed at a number that is told apart. -/
import Derived.Test.YtmfjdlmhejabiaaDoorX5
namespace Go.Proofs.YtmfjdlmhejabiaaDoor.X
open Go.RowKit Go.Proofs.YtmfjdlmhejabiaaDoorW.PrintWords Go.Proofs.Tg
theorem idx_runN {P : Program} {a : Act} {o : Oper} {w : World} {t e : TypeId} {x y : Operand} {T : List ByteArray} {k : IntKind} {i : Int} (ho : o.op = .index t x y) (hu : P.underlying t = some (.array T.length e)) (hs : ((P.info? e).isSome && P.cellsOf e == 1 && P.plainKey e) = true)
    (hx : a.eval x = .agg (cellsOf T)) (hy : a.eval y = .int k i) (N : Int) (hN : (T.length : Int) = N) (h0 : decide (0 ≤ i) = true) (h1 : decide (i < N) = true) : (execOp a.eval o).run P w = .ok (.value (.string (pickS T i.toNat))) w := by
  subst hN
  exact idx_run ho hu hs hx hy h0 h1
end Go.Proofs.YtmfjdlmhejabiaaDoor.X
