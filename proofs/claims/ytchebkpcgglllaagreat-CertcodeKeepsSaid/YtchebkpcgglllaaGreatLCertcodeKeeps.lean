/- The row of CertcodeKeeps, by the symbolic walk. -/
import Derived.Test.YtchebkpcgglllaaGreatRows
import Derived.Test.YtchebkpcgglllaaGreatCcK
import Derived.Test.YtchebkpcgglllaaGreatOpy
import Derived.ProofKit
import Derived.OpenShut
import Derived.ShutString
import Derived.ChangeOld
import Derived.Below
import Derived.SizedLaws
import Derived.WideShapes

namespace Go.Proofs.YtchebkpcgglllaaGreat.certcodeKeeps
open Go.ChangeShapes Go.WideShapes Go.ChangeAt Go.RowKit Go.SX Go.Proofs.YtchebkpcgglllaaGreat.Cu
set_option linter.unusedVariables false
theorem own : ownKnob Tryz.prog.godebug = none := by kernel_rfl
theorem laidOut : laidOutB Tryz.prog = true := by kernel_rfl
theorem wf8 {x : Int} (h : (Lit.int .u8 x).wf = true) : 0 ≤ x ∧ x ≤ 255 := by
  simp [Lit.wf, IntKind.min, IntKind.max, IntKind.signed, IntKind.bits] at h
  omega
set_option maxHeartbeats 8000000 in
set_option maxRecDepth 100000 in
theorem lifted (os : Os) (started : os.Started) (H : Type) (enc : TypeId × Value → H) :
    ReturnsInHanded {} Tryz.checked os 7 .any (Rows.certcodeKeepsSpec.pre6 enc Tryz.prog Tryz.f7 Rows.certcodeKeepsRow.domain false) (Rows.certcodeKeepsSpec.post enc Tryz.prog Tryz.f7 false true false false) := by
  refine returnsInHanded_of_change_sized (C := Tryz.checked) own started (by kernel_rfl) Tryz.func7
    (ChangeSpec.witness6 (enc := enc) (C := Tryz.checked) false ⟨#[], #[.agg #[.int .i64 0, .int .i64 0, .slice none 0 0, .int .i64 0, .int .i64 0, .int .i64 0, .slice none 0 0, .slice none 0 0]], []⟩ 8 (by kernel_rfl) (by kernel_rfl) (by kernel_rfl) (by kernel_rfl)) ?_
  intro W base args ds gs before hval0 hW hcnd hsz0 _
  have hval : ∀ (j : Nat) t v, Tryz.f7.params[j]? = some t → args[j]? = some v → Value.okWide Tryz.prog W .any base t v := hval0
  have hW' := hW
  obtain ⟨p, q, hA0, hV, rfl, hfz, hnd⟩ := hW
  have hA : DataW.TrodAll enc Tryz.prog W 0 (fun _ => true) true Tryz.f7.params.toList args.toList ds p := hA0
  rw [Tryz.params7] at hA hval
  obtain ⟨v0, vs0, d0, ds0, p0, q0, hargs, rfl, rfl, h0, r0⟩ := trodAll_cons hA
  obtain ⟨rfl, rfl, rfl⟩ := trodAll_nil r0
  obtain rfl : args = #[v0] := by cases args; simp_all
  obtain ⟨rfl, rfl⟩ := trodVars_none hV
  obtain ⟨cs0, rfl, _⟩ := okWide_struct Tryz.underlying31 (hval 0 31 v0 rfl rfl)
  have k0 := h0
  have lt0 : ∀ x ∈ p0, x.block < W.heap.size := by obtain ⟨m, hm⟩ := k0; exact DataW.trod_lt m _ _ _ hm
  obtain ⟨m0, A0, a0, B0, b0, C0, c0, hm0, s0⟩ : ∃ (m0 : Crt) (A0 : Option Addr) (a0 : Nat) (B0 : Option Addr) (b0 : Nat) (C0 : Option Addr) (c0 : Nat), cs0 = #[.int .i64 m0.s.args, .int .i64 m0.s.regs, .slice A0 m0.s.blocks.length a0, .int .i64 m0.t.args, .int .i64 m0.t.regs, .int .i64 m0.t.slots, .slice B0 m0.t.blocks.length b0, .slice C0 m0.w.length c0] ∧ CrtG (heapG W) A0 B0 C0 a0 b0 c0 m0 := by
    obtain ⟨fuel, hf⟩ := h0
    obtain ⟨x, A, a, B, b, C, c, hx, hS⟩ := opens_crt.2 _ _ _ _ _ _ _ _ _ hf
    simp only [Value.cells] at hx
    exact ⟨x, A, a, B, b, C, c, by rw [← Array.toArray_toList (xs := cs0), hx]; rfl, hS⟩
  subst hm0
  clear hA0 hval0 hsz0 hval

  refine ((((ckeeps_fn (G := heapG W) m0 s0)).law (ys := [.agg #[.int .i64 m0.s.args, .int .i64 m0.s.regs, .slice A0 m0.s.blocks.length a0, .int .i64 m0.t.args, .int .i64 m0.t.regs, .int .i64 m0.t.slots, .slice B0 m0.t.blocks.length b0, .slice C0 m0.w.length c0]]) (by first | exact ⟨_, _, rfl, ⟨_, rfl, ⟨_, _, rfl, rfl, ⟨_, _, rfl, rfl, ⟨_, _, rfl, rfl, ⟨_, _, rfl, rfl, ⟨_, _, rfl, rfl, ⟨_, _, rfl, rfl, ⟨_, _, rfl, rfl, ⟨_, _, rfl, rfl, rfl⟩⟩⟩⟩⟩⟩⟩⟩⟩, rfl⟩ | (simp only [*]; exact ⟨_, _, rfl, ⟨_, rfl, ⟨_, _, rfl, rfl, ⟨_, _, rfl, rfl, ⟨_, _, rfl, rfl, ⟨_, _, rfl, rfl, ⟨_, _, rfl, rfl, ⟨_, _, rfl, rfl, ⟨_, _, rfl, rfl, ⟨_, _, rfl, rfl, rfl⟩⟩⟩⟩⟩⟩⟩⟩⟩, rfl⟩))).mono fun e W' hh => ?_)
  obtain ⟨v, sv, H', G', ρ', rfl, ⟨rfl, _⟩, hv, bel⟩ := hh
  obtain rfl : v = .bool true := hv
  exact ⟨_, rfl, _, _, _, [], _, [], hW', trodAll_mk1 (shut_bool Tryz.underlying4 _), (trodAll_cons_mk (Below.trod laidOut (by kernel_rfl) (of_decide_eq_true (by kernel_rfl)) k0 bel lt0) trodAll_mk0), rfl, bel.frame _, fun h => by cases h⟩
theorem over : Rows.certcodeKeepsRow.holds Tryz.pinned (OpenSpec.ofChange Rows.certcodeKeepsSpec) :=
  OpenClaim.holds_of_wide 7 Tryz.f7 rfl rfl rfl rfl rfl rfl rfl ⟨rfl, rfl, rfl, rfl, rfl⟩ rfl rfl rfl rfl rfl (by kernel_rfl) Tryz.func7 (by kernel_rfl)
    (of_decide_eq_true (by kernel_rfl)) (by unfold Func.isWrapper; first | (rw [if_pos (by decide +kernel)]; kernel_rfl) | (rw [if_neg (by decide +kernel)]; exact ⟨rfl, rfl⟩))
    (fun os started H enc _ => lifted os started H enc)
theorem proved : Rows.CertcodeKeepsSaid := over
end Go.Proofs.YtchebkpcgglllaaGreat.certcodeKeeps
namespace Go.Proofs.YtchebkpcgglllaaGreat
/-- The row, under a short name, for the claim. -/
theorem certcodeKeeps_holds : Rows.CertcodeKeepsSaid := certcodeKeeps.proved
#print axioms certcodeKeeps_holds
end Go.Proofs.YtchebkpcgglllaaGreat
