/- An initial pair holds for the initial values of both functions for all arguments; any other pair does not hold for arguments that are different and not 0. No condition. -/
import Derived.Test.YtndbpljldmnkcaaZEdgeInitial27
import Derived.Test.YtndbpljldmnkcaaZEdgeInitial28
namespace Go.Proofs.Ytndbpljldmnkcaa.PEdgeInitial
open Go.RowKit Go.Proofs.YtndbpljldmnkcaaW.PrintWords Go.Proofs.YtndbpljldmnkcaaW.PrintLast
set_option linter.unusedVariables false
def WF24 (x : S24) : Prop := ((Lit.int .i64 x.f0).wf = true) ∧ (((Lit.int .i64 x.f1).wf = true))
theorem opens24 : Opens Try.prog 24 k24 WF24 := opens_struct (fun x : S24 => (x.f0, x.f1)) (fun y => (⟨y.1, y.2⟩ : S24)) (fun _ => rfl) (by kernel_rfl) Try.underlying24 (opensF_cons rfl (opens_int (by kernel_rfl) Try.underlying3) (opensF_one rfl (opens_int (by kernel_rfl) Try.underlying22)))
def regcertlaw15_EdgeInitial.Pure : Prop := ∀ (x0 : S24) (x1 : Int) (x2 : List Int), WF24 x0 → (Lit.int .u8 x1).wf = true → (x2.length ≤ maxLen ∧ ∀ qx2 ∈ x2, (Lit.int .i64 qx2).wf = true) → ∃ k, regcertlaw15_EdgeInitial.f k x0.f0 x0.f1 x1 x2 = some true
end Go.Proofs.Ytndbpljldmnkcaa.PEdgeInitial
