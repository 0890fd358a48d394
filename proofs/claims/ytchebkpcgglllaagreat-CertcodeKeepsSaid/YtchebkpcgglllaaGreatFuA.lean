/- Functions of machines: the reference's counts. -/
import Derived.Test.YtchebkpcgglllaaGreatFu2
import Derived.Test.YtchebkpcgglllaaGreatInz
namespace Go.Proofs.YtchebkpcgglllaaGreat.Cu
open Go Go.SX Go.Proofs.YtchebkpcgglllaaGreat.VT
set_option maxRecDepth 100000
set_option linter.unusedVariables false
set_option linter.unusedSimpArgs false

end Go.Proofs.YtchebkpcgglllaaGreat.Cu
