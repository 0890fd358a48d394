/- A function is accepted exactly if its counts are valid, all its instructions and terminators are, and no run of moves is longer than MaxMoves. No condition. -/
import Derived.Test.YtihnbkoeaaepiaaRows
import Derived.Test.YtihnbkoeaaepiaaZMachineCheck30
import Derived.Test.YtihnbkoeaaepiaaZMachineCheck32
import Derived.WalkKit
import Derived.ProofKit
import Derived.OpenShut
import Derived.ShutString
import Derived.ChangeOld
import Derived.Below
import Derived.SizedLaws
import Derived.WideShapes
namespace Go.Proofs.Ytihnbkoeaaepiaa.machineCheck
open Go.ChangeShapes Go.WideShapes Go.ChangeAt Go.RowKit Go.Proofs.YtihnbkoeaaepiaaW.PrintWords Go.Proofs.YtihnbkoeaaepiaaW.PrintLast Go.Proofs.Ytihnbkoeaaepiaa.PMachineCheck
open Go.ChangeMaps (open_string shut_string)
set_option linter.unusedVariables false
theorem own : ownKnob Try.prog.godebug = none := by kernel_rfl
theorem laidOut : laidOutB Try.prog = true := by kernel_rfl
set_option maxRecDepth 100000 in
theorem lifted (os : Os) (started : os.Started) (H : Type) (enc : TypeId × Value → H) :
    ReturnsInHanded {} Try.checked os 9 .any (Rows.machineCheckSpec.pre6 enc Try.prog Try.f9 Rows.machineCheckRow.domain false) (Rows.machineCheckSpec.post enc Try.prog Try.f9 false true false false) := by
  refine returnsInHanded_of_change_sized (C := Try.checked) own started (by kernel_rfl) Try.func9
    (ChangeSpec.witness6 (enc := enc) (C := Try.checked) false ⟨#[], #[(.agg #[(.int .i64 0), (.int .i64 0), (.int .i64 0), (.slice none 0 0)])], []⟩ 8 (by kernel_rfl) (by kernel_rfl) (by kernel_rfl) (by kernel_rfl)) ?_
  intro W base args ds gs before hval0 hW hcnd hsz0 _
  have hval : ∀ (j : Nat) t v, Try.f9.params[j]? = some t → args[j]? = some v → Value.okWide Try.prog W .any base t v := hval0
  have hW' := hW
  obtain ⟨p, q, hA0, hV, rfl, hfz, hnd⟩ := hW
  have hA : DataW.TrodAll enc Try.prog W 0 (fun _ => true) true Try.f9.params.toList args.toList ds p := hA0
  rw [Try.params9] at hA hval
  obtain ⟨v0, vs0, d0, ds0, p0, q0, hargs, rfl, rfl, h0, r0⟩ := trodAll_cons hA
  obtain ⟨rfl, rfl, rfl⟩ := trodAll_nil r0
  obtain rfl : args = #[v0] := by cases args; simp_all
  obtain ⟨rfl, rfl⟩ := trodVars_none hV
  have k0 := h0
  have lt0 : ∀ x ∈ p0, x.block < W.heap.size := by obtain ⟨m, hm⟩ := k0; exact DataW.trod_lt m _ _ _ hm
  obtain ⟨cs0, rfl, _⟩ := okWide_struct Try.underlying64 (hval 0 64 v0 rfl rfl)
  obtain ⟨fu0, hf0⟩ := h0
  obtain ⟨x0, hk0, wf0⟩ := (opens64).2 H enc W _ _ _ fu0 _ _ hf0
  obtain ⟨A0_0, c0_0, e0, hc0_0, hr0_0⟩ := k64_open hk0
  have e0' := congrArg List.toArray e0
  simp only [Value.cells, Array.toArray_toList] at e0'
  subst e0'
  obtain ⟨k, hp⟩ := Pure.MachineCheck x0 wf0
  clear hA0 hval0 hsz0 hval
  refine (regcertlaw08_MachineCheck.calls k x0.f0 x0.f1 x0.f2 _ _ x0.f3 true W hr0_0 hc0_0 hp).mono fun e W' ⟨he, bel0⟩ => ?_
  have bel : Below W.heap.size W W' := by first | exact bel0 | exact bel0.below
  subst he
  exact ⟨_, rfl, _, _, _, [], _, [], hW', trodAll_mk1 (shut_bool Try.underlying4 _), (trodAll_cons_mk (Below.trod laidOut (by kernel_rfl) (of_decide_eq_true (by kernel_rfl)) k0 bel lt0) trodAll_mk0), rfl, bel.frame _, fun h => by cases h⟩
theorem over : Rows.machineCheckRow.holds Try.pinned (OpenSpec.ofChange Rows.machineCheckSpec) :=
  OpenClaim.holds_of_wide 9 Try.f9 rfl rfl rfl rfl rfl rfl rfl ⟨rfl, rfl, rfl, rfl, rfl⟩ rfl rfl rfl rfl rfl (by kernel_rfl) Try.func9 (by kernel_rfl)
    (of_decide_eq_true (by kernel_rfl)) (by unfold Func.isWrapper; first | (rw [if_pos (by decide +kernel)]; kernel_rfl) | (rw [if_neg (by decide +kernel)]; exact ⟨rfl, rfl⟩))
    (fun os started H enc _ => lifted os started H enc)
theorem proved : Rows.MachineCheckSaid := over
#print axioms proved
end Go.Proofs.Ytihnbkoeaaepiaa.machineCheck
namespace Go.Proofs.Ytihnbkoeaaepiaa
theorem machineCheck_holds : Rows.MachineCheckSaid := machineCheck.proved
end Go.Proofs.Ytihnbkoeaaepiaa
