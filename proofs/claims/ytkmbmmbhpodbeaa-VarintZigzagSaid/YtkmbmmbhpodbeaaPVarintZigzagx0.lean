import Derived.Test.YtkmbmmbhpodbeaaProg
import Derived.Below
import Derived.Deep.Draws
import Derived.Deep.AppendLies
import Derived.Maps.AppendAt
import Derived.OwnWalk
import Derived.Laws.BytesArg
import Derived.Laws.MakeOwn
import Derived.Laws.OwnMore
import Derived.Deep.OwnRows
import Derived.Tactics
import Derived.Lib.ConvBytes
import Derived.Laws.Slices
import Derived.WalkKit
import Derived.KernelRfl
import Derived.RowKit3
import Derived.Deep.LoopGhost
import Derived.Deep.QuietTactic
import Derived.BigQuiet
import Derived.WideLaws
import Derived.Deep.DeepCutAuto
import Derived.Deep.CutBlock
import Derived.Deep.RegionHeld3
import Derived.Laws.Rows
import Derived.Lib.AppendStr
import Derived.ArgAppend
import Derived.Laws.IdiomCopy
import Derived.OrdersHeld
import Derived.Laws.BitsLemmas
import Derived.RowKit
import Derived.Test.YtkmbmmbhpodbeaaWWords
import Derived.Test.YtkmbmmbhpodbeaaWLast
import Derived.Test.YtkmbmmbhpodbeaaWTab
import Derived.Test.YtkmbmmbhpodbeaaWFour
import Derived.Test.YtkmbmmbhpodbeaaWQPut
import Derived.Test.YtkmbmmbhpodbeaaWApart
import Derived.Test.YtkmbmmbhpodbeaaWArr
import Derived.Test.YtkmbmmbhpodbeaaWZeros
import Derived.Test.YtkmbmmbhpodbeaaWFoot
import Derived.Test.YtkmbmmbhpodbeaaWKept
import Derived.Test.YtkmbmmbhpodbeaaWShare
import Derived.Test.YtkmbmmbhpodbeaaWN
import Derived.Test.YtkmbmmbhpodbeaaWFootNe
import Derived.Test.YtkmbmmbhpodbeaaWAt
import Derived.Test.YtkmbmmbhpodbeaaWEqStruct
import Derived.Test.YtkmbmmbhpodbeaaWRepsOne
import Derived.Test.YtkmbmmbhpodbeaaWInv
import Derived.Test.YtkmbmmbhpodbeaaWInvWords
import Derived.Test.YtkmbmmbhpodbeaaWGuard
import Derived.Test.YtkmbmmbhpodbeaaWNEv
import Derived.Test.YtkmbmmbhpodbeaaWMore
namespace Go.Proofs.Ytkmbmmbhpodbeaa.PVarintZigzag
open Go.RowKit Go.Proofs.YtkmbmmbhpodbeaaW.PrintWords Go.Proofs.YtkmbmmbhpodbeaaW.PrintLast Go.Proofs.YtkmbmmbhpodbeaaW.PrintMore
attribute [local go_sem] max2_int min2_int max_two min_two max_three min_three max_four min_four   -- for this text's walks alone
set_option linter.unusedVariables false
set_option linter.unusedSimpArgs false



def errW : Option Int → Value
  | none => .nilIface
  | some c => .iface 0 (.int .i64 c)
theorem errW_none : errW none = .nilIface := rfl
theorem errW_some (c : Int) : errW (some c) = .iface 0 (.int .i64 c) := rfl

theorem info5 : (Try.prog.info? 5).map (fun i => (i.zero, i.size, i.bytes)) = some (some (.int .u8 0), 1, 1) := by kernel_rfl
-- the values' own types

end Go.Proofs.Ytkmbmmbhpodbeaa.PVarintZigzag
