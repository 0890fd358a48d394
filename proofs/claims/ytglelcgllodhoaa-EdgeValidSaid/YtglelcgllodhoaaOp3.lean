/- What lies in the world: pairs. -/
import Derived.Test.YtglelcgllodhoaaWi3
import Derived.Test.YtglelcgllodhoaaOpx
namespace Go.Proofs.Ytglelcgllodhoaa.Cu
open Go Go.SX Go.Proofs.Ytglelcgllodhoaa.VT
set_option maxRecDepth 100000
theorem opens_pr : Opens Try.prog 25 kPr := by
  refine opens_struct (by kernel_rfl) Try.underlying25 (consE 1 1 opens_int_ rfl rfl rfl (consE 2 0 opens_loc rfl rfl rfl (.nil _))) ?_
  rintro G ⟨a, b, _⟩ cs ⟨_, _, rfl, ⟨rfl, ha⟩, _, _, rfl, ⟨rfl, hb⟩, rfl⟩
  exact ⟨⟨a, b⟩, rfl, ha, hb⟩
theorem opens_prs : Opens Try.prog 30 kPrs := opens_slice (by kernel_rfl) Try.underlying30 opens_pr
theorem opens_prss : Opens Try.prog 22 (kS kPrs) := opens_slice (by kernel_rfl) Try.underlying22 opens_prs
end Go.Proofs.Ytglelcgllodhoaa.Cu
