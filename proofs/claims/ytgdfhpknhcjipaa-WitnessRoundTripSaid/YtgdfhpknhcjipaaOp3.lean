/- What lies in the world: pairs. -/
import Derived.Test.YtgdfhpknhcjipaaWi3
import Derived.Test.YtgdfhpknhcjipaaOp0
namespace Go.Proofs.Ytgdfhpknhcjipaa.Cu
open Go Go.SX Go.Proofs.Ytgdfhpknhcjipaa.VT
set_option maxRecDepth 100000
theorem opens_pr : Opens Try.prog 79 kPr := by
  refine opens_struct (by kernel_rfl) Try.underlying79 (consE 1 1 opens_int_ rfl rfl rfl (consE 2 0 opens_loc rfl rfl rfl (.nil _))) ?_
  rintro G ⟨a, b, _⟩ cs ⟨_, _, rfl, ⟨rfl, ha⟩, _, _, rfl, ⟨rfl, hb⟩, rfl⟩
  exact ⟨⟨a, b⟩, rfl, ha, hb⟩
theorem opens_prs : Opens Try.prog 80 kPrs := opens_slice (by kernel_rfl) Try.underlying80 opens_pr
theorem opens_prss : Opens Try.prog 43 (kS kPrs) := opens_slice (by kernel_rfl) Try.underlying43 opens_prs
end Go.Proofs.Ytgdfhpknhcjipaa.Cu
