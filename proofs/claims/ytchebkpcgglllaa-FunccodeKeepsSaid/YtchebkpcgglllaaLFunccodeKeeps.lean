/- The row of FunccodeKeeps, by the symbolic walk. -/
import Derived.Test.YtchebkpcgglllaaRows
import Derived.Test.YtchebkpcgglllaaKp3
import Derived.Test.YtchebkpcgglllaaOp4
import Derived.ProofKit
import Derived.OpenShut
import Derived.ShutString
import Derived.ChangeOld
import Derived.Below
import Derived.SizedLaws
import Derived.WideShapes

namespace Go.Proofs.Ytchebkpcgglllaa.funccodeKeeps
open Go.ChangeShapes Go.WideShapes Go.ChangeAt Go.RowKit Go.SX Go.Proofs.Ytchebkpcgglllaa.Cu
set_option linter.unusedVariables false
theorem own : ownKnob Try.prog.godebug = none := by kernel_rfl
theorem laidOut : laidOutB Try.prog = true := by kernel_rfl
theorem wf8 {x : Int} (h : (Lit.int .u8 x).wf = true) : 0 ≤ x ∧ x ≤ 255 := by
  simp [Lit.wf, IntKind.min, IntKind.max, IntKind.signed, IntKind.bits] at h
  omega
theorem wf16 {x : Int} (h : (Lit.int .u16 x).wf = true) : 0 ≤ x ∧ x ≤ 65535 := by
  simp [Lit.wf, IntKind.min, IntKind.max, IntKind.signed, IntKind.bits] at h
  omega
theorem wf64 {x : Int} (h : (Lit.int .i64 x).wf = true) : -9223372036854775808 ≤ x ∧ x ≤ 9223372036854775807 := by
  simp [Lit.wf, IntKind.min, IntKind.max, IntKind.signed, IntKind.bits] at h
  omega
theorem wfu64 {x : Int} (h : (Lit.int .u64 x).wf = true) : 0 ≤ x ∧ x < 18446744073709551616 := by
  simp [Lit.wf, IntKind.min, IntKind.max, IntKind.signed, IntKind.bits] at h
  omega

set_option maxHeartbeats 8000000 in
set_option maxRecDepth 100000 in
theorem lifted (os : Os) (started : os.Started) (H : Type) (enc : TypeId × Value → H) :
    ReturnsInHanded {} Try.checked os 4 .any (Rows.funccodeKeepsSpec.pre6 enc Try.prog Try.f4 Rows.funccodeKeepsRow.domain false) (Rows.funccodeKeepsSpec.post enc Try.prog Try.f4 false true false false) := by
  refine returnsInHanded_of_change_sized (C := Try.checked) own started (by kernel_rfl) Try.func4
    (ChangeSpec.witness6 (enc := enc) (C := Try.checked) false ⟨#[], #[.agg #[.int .i64 0, .int .i64 0, .slice none 0 0]], []⟩ 8 (by kernel_rfl) (by kernel_rfl) (by kernel_rfl) (by kernel_rfl)) ?_
  intro W base args ds gs before hval0 hW hcnd hsz0 _
  have hval : ∀ (j : Nat) t v, Try.f4.params[j]? = some t → args[j]? = some v → Value.okWide Try.prog W .any base t v := hval0
  have hW' := hW
  obtain ⟨p, q, hA0, hV, rfl, hfz, hnd⟩ := hW
  have hA : DataW.TrodAll enc Try.prog W 0 (fun _ => true) true Try.f4.params.toList args.toList ds p := hA0
  rw [Try.params4] at hA hval
  obtain ⟨v0, vs0, d0, ds0, p0, q0, hargs, rfl, rfl, h0, r0⟩ := trodAll_cons hA
  obtain ⟨rfl, rfl, rfl⟩ := trodAll_nil r0
  obtain rfl : args = #[v0] := by cases args; simp_all
  obtain ⟨rfl, rfl⟩ := trodVars_none hV
  obtain ⟨cs0, rfl, _⟩ := okWide_struct Try.underlying36 (hval 0 36 v0 rfl rfl)
  have k0 := h0
  have lt0 : ∀ x ∈ p0, x.block < W.heap.size := by obtain ⟨m, hm⟩ := k0; exact DataW.trod_lt m _ _ _ hm
  obtain ⟨m0, a0, c0, hm0, s0⟩ : ∃ (m0 : Cu.Fn) (a0 : Option Addr) (c0 : Nat), cs0 = #[.int .i64 m0.args, .int .i64 m0.regs, .slice a0 m0.blocks.length c0] ∧ kBlk.S (heapG W) a0 c0 m0.blocks := by
    obtain ⟨fuel, hf⟩ := h0
    obtain ⟨x, A, c, hx, hS, _⟩ := opens_fn.2 _ _ _ _ _ _ _ _ _ hf
    simp only [Value.cells] at hx
    exact ⟨x, A, c, by rw [← Array.toArray_toList (xs := cs0), hx], hS⟩
  subst hm0
  clear hA0 hval0 hsz0 hval

  refine (((fkeeps_fn (heapG W) a0 c0 m0 s0).law (ys := [.agg #[.int .i64 m0.args, .int .i64 m0.regs, .slice a0 m0.blocks.length c0]]) (by first | exact ⟨_, _, rfl, ⟨_, rfl, ⟨_, _, rfl, rfl, ⟨_, _, rfl, rfl, ⟨_, _, rfl, rfl, rfl⟩⟩⟩⟩, rfl⟩ | (simp only [*]; exact ⟨_, _, rfl, ⟨_, rfl, ⟨_, _, rfl, rfl, ⟨_, _, rfl, rfl, ⟨_, _, rfl, rfl, rfl⟩⟩⟩⟩, rfl⟩))).mono fun e W' hh => ?_)
  obtain ⟨v, sv, H', G', ρ', rfl, ⟨rfl, _⟩, hv, bel⟩ := hh
  obtain rfl : v = .bool true := hv
  exact ⟨_, rfl, _, _, _, [], _, [], hW', trodAll_mk1 (shut_bool Try.underlying4 _), (trodAll_cons_mk (Below.trod laidOut (by kernel_rfl) (of_decide_eq_true (by kernel_rfl)) k0 bel lt0) trodAll_mk0), rfl, bel.frame _, fun h => by cases h⟩
theorem over : Rows.funccodeKeepsRow.holds Try.pinned (OpenSpec.ofChange Rows.funccodeKeepsSpec) :=
  OpenClaim.holds_of_wide 4 Try.f4 rfl rfl rfl rfl rfl rfl rfl ⟨rfl, rfl, rfl, rfl, rfl⟩ rfl rfl rfl rfl rfl (by kernel_rfl) Try.func4 (by kernel_rfl)
    (of_decide_eq_true (by kernel_rfl)) (by unfold Func.isWrapper; first | (rw [if_pos (by decide +kernel)]; kernel_rfl) | (rw [if_neg (by decide +kernel)]; exact ⟨rfl, rfl⟩))
    (fun os started H enc _ => lifted os started H enc)
theorem proved : Rows.FunccodeKeepsSaid := over
end Go.Proofs.Ytchebkpcgglllaa.funccodeKeeps
namespace Go.Proofs.Ytchebkpcgglllaa
/-- The row, under a short name, for the claim. -/
theorem funccodeKeeps_holds : Rows.FunccodeKeepsSaid := funccodeKeeps.proved
#print axioms funccodeKeeps_holds
end Go.Proofs.Ytchebkpcgglllaa
