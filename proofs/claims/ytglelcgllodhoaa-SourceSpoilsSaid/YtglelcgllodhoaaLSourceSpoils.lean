/- The row of SourceSpoils, by the symbolic walk. -/
import Derived.Test.YtglelcgllodhoaaRows

import Derived.Test.YtglelcgllodhoaaSo8
import Derived.Test.YtglelcgllodhoaaOp4
import Derived.ProofKit
import Derived.OpenShut
import Derived.ShutString
import Derived.ChangeOld
import Derived.Below
import Derived.SizedLaws
import Derived.WideShapes
namespace Go.Proofs.Ytglelcgllodhoaa.sourceSpoils
open Go.ChangeShapes Go.WideShapes Go.ChangeAt Go.RowKit Go.SX Go.Proofs.Ytglelcgllodhoaa.Cu
set_option linter.unusedVariables false
theorem own : ownKnob Try.prog.godebug = none := by kernel_rfl
theorem laidOut : laidOutB Try.prog = true := by kernel_rfl
theorem wf8 {x : Int} (h : (Lit.int .u8 x).wf = true) : 0 ≤ x ∧ x ≤ 255 := by
  simp [Lit.wf, IntKind.min, IntKind.max, IntKind.signed, IntKind.bits] at h
  omega
theorem wf16 {x : Int} (h : (Lit.int .u16 x).wf = true) : 0 ≤ x ∧ x ≤ 65535 := by
  simp [Lit.wf, IntKind.min, IntKind.max, IntKind.signed, IntKind.bits] at h
  omega
theorem wf64 {x : Int} (h : (Lit.int .i64 x).wf = true) : -9223372036854775808 ≤ x ∧ x ≤ 9223372036854775807 := by
  simp [Lit.wf, IntKind.min, IntKind.max, IntKind.signed, IntKind.bits] at h
  omega
theorem wfu64 {x : Int} (h : (Lit.int .u64 x).wf = true) : 0 ≤ x ∧ x < 18446744073709551616 := by
  simp [Lit.wf, IntKind.min, IntKind.max, IntKind.signed, IntKind.bits] at h
  omega

set_option maxHeartbeats 8000000 in
set_option maxRecDepth 100000 in
theorem lifted (os : Os) (started : os.Started) (H : Type) (enc : TypeId × Value → H) :
    ReturnsInHanded {} Try.checked os 6 .any (Rows.sourceSpoilsSpec.pre6 enc Try.prog Try.f6 Rows.sourceSpoilsRow.domain false) (Rows.sourceSpoilsSpec.post enc Try.prog Try.f6 false true false false) := by
  refine returnsInHanded_of_change_sized (C := Try.checked) own started (by kernel_rfl) Try.func6
    (ChangeSpec.witness6 (enc := enc) (C := Try.checked) false ⟨#[], #[.agg #[.int .i64 0, .int .i64 0, .slice none 0 0], .int .u16 0, .int .i64 0], []⟩ 8 (by kernel_rfl) (by kernel_rfl) (by kernel_rfl) (by kernel_rfl)) ?_
  intro W base args ds gs before hval0 hW hcnd hsz0 _
  have hval : ∀ (j : Nat) t v, Try.f6.params[j]? = some t → args[j]? = some v → Value.okWide Try.prog W .any base t v := hval0
  have hW' := hW
  obtain ⟨p, q, hA0, hV, rfl, hfz, hnd⟩ := hW
  have hA : DataW.TrodAll enc Try.prog W 0 (fun _ => true) true Try.f6.params.toList args.toList ds p := hA0
  rw [Try.params6] at hA hval
  obtain ⟨v0, vs0, d0, ds0, p0, q0, hargs, rfl, rfl, h0, r0⟩ := trodAll_cons hA
  obtain ⟨v1, vs1, d1, ds1, p1, q1, rfl, rfl, rfl, h1, r1⟩ := trodAll_cons r0
  obtain ⟨v2, vs2, d2, ds2, p2, q2, rfl, rfl, rfl, h2, r2⟩ := trodAll_cons r1
  obtain ⟨rfl, rfl, rfl⟩ := trodAll_nil r2
  obtain rfl : args = #[v0, v1, v2] := by cases args; simp_all
  obtain ⟨rfl, rfl⟩ := trodVars_none hV
  obtain ⟨cs0, rfl, _⟩ := okWide_struct Try.underlying46 (hval 0 46 v0 rfl rfl)
  have k0 := h0
  have lt0 : ∀ x ∈ p0, x.block < W.heap.size := by obtain ⟨m, hm⟩ := k0; exact DataW.trod_lt m _ _ _ hm
  obtain ⟨m0, a0, c0, hm0, s0⟩ : ∃ (m0 : Cu.Fn) (a0 : Option Addr) (c0 : Nat), cs0 = #[.int .i64 m0.args, .int .i64 m0.regs, .slice a0 m0.blocks.length c0] ∧ kBlk.S (heapG W) a0 c0 m0.blocks := by
    obtain ⟨fuel, hf⟩ := h0
    obtain ⟨x, A, c, hx, hS, _⟩ := opens_fn.2 _ _ _ _ _ _ _ _ _ hf
    simp only [Value.cells] at hx
    exact ⟨x, A, c, by rw [← Array.toArray_toList (xs := cs0), hx], hS⟩
  subst hm0
  obtain ⟨a1, rfl, rfl, rfl, w1⟩ := open_int Try.underlying47 (hval 1 47 v1 rfl rfl) h1
  obtain ⟨a2, rfl, rfl, rfl, w2⟩ := open_int Try.underlying3 (hval 2 3 v2 rfl rfl) h2
  clear hA0 hval0 hsz0 hval
  have hr1 := wf16 w1
  have hr2 := wf64 w2
  refine (((sspoils_fn (heapG W) a0 c0 m0 s0 a1 a2 ⟨by omega, by omega⟩ ⟨by omega, by omega⟩).law (ys := [.agg #[.int .i64 m0.args, .int .i64 m0.regs, .slice a0 m0.blocks.length c0], .int .u16 a1, .int .i64 a2]) (by first | exact ⟨_, _, rfl, ⟨_, rfl, ⟨_, _, rfl, rfl, ⟨_, _, rfl, rfl, ⟨_, _, rfl, rfl, rfl⟩⟩⟩⟩, ⟨_, _, rfl, rfl, ⟨_, _, rfl, rfl, rfl⟩⟩⟩ | (simp only [*]; exact ⟨_, _, rfl, ⟨_, rfl, ⟨_, _, rfl, rfl, ⟨_, _, rfl, rfl, ⟨_, _, rfl, rfl, rfl⟩⟩⟩⟩, ⟨_, _, rfl, rfl, ⟨_, _, rfl, rfl, rfl⟩⟩⟩))).mono fun e W' hh => ?_)
  obtain ⟨v, sv, H', G', ρ', rfl, ⟨rfl, _⟩, hv, bel⟩ := hh
  obtain rfl : v = .bool true := hv
  exact ⟨_, rfl, _, _, _, [], _, [], hW', trodAll_mk1 (shut_bool Try.underlying4 _), (trodAll_cons_mk (Below.trod laidOut (by kernel_rfl) (of_decide_eq_true (by kernel_rfl)) k0 bel lt0) (trodAll_cons_mk (shut_int Try.underlying47 w1) (trodAll_cons_mk (shut_int Try.underlying3 w2) trodAll_mk0))), rfl, bel.frame _, fun h => by cases h⟩
theorem over : Rows.sourceSpoilsRow.holds Try.pinned (OpenSpec.ofChange Rows.sourceSpoilsSpec) :=
  OpenClaim.holds_of_wide 6 Try.f6 rfl rfl rfl rfl rfl rfl rfl ⟨rfl, rfl, rfl, rfl, rfl⟩ rfl rfl rfl rfl rfl (by kernel_rfl) Try.func6 (by kernel_rfl)
    (of_decide_eq_true (by kernel_rfl)) (by unfold Func.isWrapper; first | (rw [if_pos (by decide +kernel)]; kernel_rfl) | (rw [if_neg (by decide +kernel)]; exact ⟨rfl, rfl⟩))
    (fun os started H enc _ => lifted os started H enc)
theorem proved : Rows.SourceSpoilsSaid := over
end Go.Proofs.Ytglelcgllodhoaa.sourceSpoils
namespace Go.Proofs.Ytglelcgllodhoaa
/-- The row, under a short name, for the claim. -/
theorem sourceSpoils_holds : Rows.SourceSpoilsSaid := sourceSpoils.proved
#print axioms sourceSpoils_holds
end Go.Proofs.Ytglelcgllodhoaa
