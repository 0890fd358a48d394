/- An instruction of a machine is read: one of the shapes. -/
import Derived.Test.YtchebkpcgglllaaIn4d
namespace Go.Proofs.Ytchebkpcgglllaa.Cu
open Go Go.SX Go.Proofs.Ytchebkpcgglllaa.VT
set_option maxRecDepth 100000
set_option linter.unusedVariables false
set_option linter.unusedSimpArgs false

end Go.Proofs.Ytchebkpcgglllaa.Cu
