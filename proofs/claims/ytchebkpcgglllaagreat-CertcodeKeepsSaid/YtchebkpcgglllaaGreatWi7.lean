/- Invariants: the fixed results. -/
import Derived.Test.YtchebkpcgglllaaGreatWi5
import Derived.Test.YtchebkpcgglllaaGreatWi6
namespace Go.Proofs.YtchebkpcgglllaaGreat.Cu
open Go Go.SX Go.Proofs.YtchebkpcgglllaaGreat.VT
set_option maxRecDepth 100000
set_option linter.unusedVariables false
set_option linter.unusedSimpArgs false
end Go.Proofs.YtchebkpcgglllaaGreat.Cu
