/- What the law says of lists and numbers alone; that what reads as its arguments is of these kinds. -/
import Derived.Test.YtihnbkoeaaepiaaPMachineMovesx5
import Derived.Test.YtihnbkoeaaepiaaOpens
namespace Go.Proofs.Ytihnbkoeaaepiaa.PMachineMoves
open Go.RowKit Go.Proofs.YtihnbkoeaaepiaaW.PrintWords Go.Proofs.YtihnbkoeaaepiaaW.PrintLast
set_option linter.unusedVariables false

def regcertlaw08_MachineMoves.Pure : Prop := ∀ (x0 : Int) (x1 : Int) (x2 : Int) (x3 : Int), (Lit.int .i16 x0).wf = true → (Lit.int .i16 x1).wf = true → (Lit.int .u8 x2).wf = true → (Lit.int .u8 x3).wf = true → ∃ k, regcertlaw08_MachineMoves.f k x0 x1 x2 x3 = some true
end Go.Proofs.Ytihnbkoeaaepiaa.PMachineMoves
