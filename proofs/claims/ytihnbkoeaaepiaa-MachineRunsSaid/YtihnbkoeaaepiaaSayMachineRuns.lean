/- What the law says of lists and numbers alone; that what reads as its arguments is of these kinds. -/
import Derived.Test.YtihnbkoeaaepiaaPMachineRunsx5
import Derived.Test.YtihnbkoeaaepiaaOpens
namespace Go.Proofs.Ytihnbkoeaaepiaa.PMachineRuns
open Go.RowKit Go.Proofs.YtihnbkoeaaepiaaW.PrintWords Go.Proofs.YtihnbkoeaaepiaaW.PrintLast
set_option linter.unusedVariables false

def regcertlaw08_MachineRuns.Pure : Prop := ∀ (x0 : Int) (x1 : Int) (x2 : Int), (Lit.int .u8 x0).wf = true → (Lit.int .u8 x1).wf = true → (Lit.int .u8 x2).wf = true → ∃ k, regcertlaw08_MachineRuns.f k x0 x1 x2 = some true
end Go.Proofs.Ytihnbkoeaaepiaa.PMachineRuns
