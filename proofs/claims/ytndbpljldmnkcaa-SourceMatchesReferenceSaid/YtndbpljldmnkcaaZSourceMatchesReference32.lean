/- For every function, instruction and terminator, all functions return what the reference implementation returns. No condition. -/
import Derived.Test.YtndbpljldmnkcaaZSourceMatchesReference30
import Derived.Test.YtndbpljldmnkcaaZSourceMatchesReference31
namespace Go.Proofs.Ytndbpljldmnkcaa.PSourceMatchesReference
open Go.RowKit Go.Proofs.YtndbpljldmnkcaaW.PrintWords Go.Proofs.YtndbpljldmnkcaaW.PrintLast
set_option linter.unusedVariables false
def WF52 (x : S52) : Prop := ((Lit.int .i64 x.f0).wf = true) ∧ (((Lit.int .i64 x.f1).wf = true) ∧ (((Lit.int .i64 x.f2).wf = true) ∧ (((Lit.int .i64 x.f3).wf = true) ∧ (((Lit.int .i64 x.f4).wf = true)))))
theorem opens52 : Opens Try.prog 52 k52 WF52 := opens_struct (fun x : S52 => (x.f0, x.f1, x.f2, x.f3, x.f4)) (fun y => (⟨y.1, y.2.1, y.2.2.1, y.2.2.2.1, y.2.2.2.2⟩ : S52)) (fun _ => rfl) (by kernel_rfl) Try.underlying52 (opensF_cons rfl (opens_int (by kernel_rfl) Try.underlying3) (opensF_cons rfl (opens_int (by kernel_rfl) Try.underlying3) (opensF_cons rfl (opens_int (by kernel_rfl) Try.underlying3) (opensF_cons rfl (opens_int (by kernel_rfl) Try.underlying3) (opensF_one rfl (opens_int (by kernel_rfl) Try.underlying2))))))
def WF54 (x : S54) : Prop := ((Lit.int .i64 x.f0).wf = true) ∧ (((Lit.int .i64 x.f1).wf = true) ∧ (((Lit.int .i64 x.f2).wf = true) ∧ (((Lit.int .i64 x.f3).wf = true))))
theorem opens54 : Opens Try.prog 54 k54 WF54 := opens_struct (fun x : S54 => (x.f0, x.f1, x.f2, x.f3)) (fun y => (⟨y.1, y.2.1, y.2.2.1, y.2.2.2⟩ : S54)) (fun _ => rfl) (by kernel_rfl) Try.underlying54 (opensF_cons rfl (opens_int (by kernel_rfl) Try.underlying3) (opensF_cons rfl (opens_int (by kernel_rfl) Try.underlying3) (opensF_cons rfl (opens_int (by kernel_rfl) Try.underlying3) (opensF_one rfl (opens_int (by kernel_rfl) Try.underlying3)))))
def WF68 (x : S68) : Prop := ((x.f0.length ≤ maxLen ∧ ∀ qx_f0 ∈ x.f0, WF52 qx_f0)) ∧ ((WF54 x.f1))
theorem opens68 : Opens Try.prog 68 k68 WF68 := opens_struct (fun x : S68 => (x.f0, x.f1)) (fun y => (⟨y.1, y.2⟩ : S68)) (fun _ => rfl) (by kernel_rfl) Try.underlying68 (opensF_cons rfl (opens_slice (by kernel_rfl) Try.underlying66 opens52) (opensF_one rfl opens54))
def WF50 (x : S50) : Prop := ((Lit.int .i64 x.f0).wf = true) ∧ (((Lit.int .i64 x.f1).wf = true) ∧ (((x.f2.length ≤ maxLen ∧ ∀ qx_f2 ∈ x.f2, WF68 qx_f2))))
theorem opens50 : Opens Try.prog 50 k50 WF50 := opens_struct (fun x : S50 => (x.f0, x.f1, x.f2)) (fun y => (⟨y.1, y.2.1, y.2.2⟩ : S50)) (fun _ => rfl) (by kernel_rfl) Try.underlying50 (opensF_cons rfl (opens_int (by kernel_rfl) Try.underlying3) (opensF_cons rfl (opens_int (by kernel_rfl) Try.underlying3) (opensF_one rfl (opens_slice (by kernel_rfl) Try.underlying48 opens68))))
def regcertlaw07_SourceMatchesReference.Pure : Prop := ∀ (x0 : S50) (x1 : S52) (x2 : S54) (x3 : Int) (x4 : Int), WF50 x0 → WF52 x1 → WF54 x2 → (Lit.int .i64 x3).wf = true → (Lit.int .i64 x4).wf = true → ∃ k, regcertlaw07_SourceMatchesReference.f k x0.f0 x0.f1 x0.f2 x1.f0 x1.f1 x1.f2 x1.f3 x1.f4 x2.f0 x2.f1 x2.f2 x2.f3 x3 x4 = some true
end Go.Proofs.Ytndbpljldmnkcaa.PSourceMatchesReference
