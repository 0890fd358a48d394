/- An invariant is implied exactly if it is a subset; implication is transitive. No condition. -/
import Derived.Test.YtndbpljldmnkcaaZEdgeImplies28
import Derived.Test.YtndbpljldmnkcaaZEdgeImplies29
namespace Go.Proofs.Ytndbpljldmnkcaa.PEdgeImplies
open Go.RowKit Go.Proofs.YtndbpljldmnkcaaW.PrintWords Go.Proofs.YtndbpljldmnkcaaW.PrintLast
set_option linter.unusedVariables false
def WF24 (x : S24) : Prop := ((Lit.int .i64 x.f0).wf = true) ∧ (((Lit.int .i64 x.f1).wf = true))
theorem opens24 : Opens Try.prog 24 k24 WF24 := opens_struct (fun x : S24 => (x.f0, x.f1)) (fun y => (⟨y.1, y.2⟩ : S24)) (fun _ => rfl) (by kernel_rfl) Try.underlying24 (opensF_cons rfl (opens_int (by kernel_rfl) Try.underlying3) (opensF_one rfl (opens_int (by kernel_rfl) Try.underlying22)))
def regcertlaw15_EdgeImplies.Pure : Prop := ∀ (x0 : List (S24)) (x1 : List (S24)) (x2 : List (S24)), (x0.length ≤ maxLen ∧ ∀ qx0 ∈ x0, WF24 qx0) → (x1.length ≤ maxLen ∧ ∀ qx1 ∈ x1, WF24 qx1) → (x2.length ≤ maxLen ∧ ∀ qx2 ∈ x2, WF24 qx2) → ∃ k, regcertlaw15_EdgeImplies.f k x0 x1 x2 = some true
end Go.Proofs.Ytndbpljldmnkcaa.PEdgeImplies
