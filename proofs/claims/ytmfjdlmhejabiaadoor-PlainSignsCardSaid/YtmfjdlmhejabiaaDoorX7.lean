/- A cut of a constant text. -/
import Derived.Test.YtmfjdlmhejabiaaDoorM11
import Derived.Test.YtmfjdlmhejabiaaDoorPLx4
namespace Go.Proofs.YtmfjdlmhejabiaaDoor.PL
open Go.RowKit Go.Proofs.Tg Go.Proofs.YtmfjdlmhejabiaaDoor.X Go.Proofs.YtmfjdlmhejabiaaDoor.M Go.Proofs.YtmfjdlmhejabiaaDoorW.PrintWords
set_option linter.unusedVariables false
set_option linter.unusedSimpArgs false

theorem slice_run (s : ByteArray) (a e : Nat) (h1 : a ≤ e) (h2 : e ≤ s.size) (w : World) (hs : s.size ≤ 35184372088832 := by decide) : Sem.run Tryd.prog (Instr.slice 9 (.string s) (some (.int .i64 (a : Nat))) (some (.int .i64 (e : Nat))) none) w = .ok (.string (s.extract a e)) w := by
  go_simp
end Go.Proofs.YtmfjdlmhejabiaaDoor.PL
