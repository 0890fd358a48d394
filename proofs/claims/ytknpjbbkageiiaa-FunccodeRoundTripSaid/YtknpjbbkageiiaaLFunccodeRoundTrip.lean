/- The row of FunccodeRoundTrip, by the symbolic walk. -/
import Derived.Test.YtknpjbbkageiiaaRows
import Derived.Test.YtknpjbbkageiiaaOp4
import Derived.Test.YtknpjbbkageiiaaFuK
import Derived.ProofKit
import Derived.OpenShut
import Derived.ShutString
import Derived.ChangeOld
import Derived.Below
import Derived.SizedLaws
import Derived.WideShapes
namespace Go.Proofs.Ytknpjbbkageiiaa.funccodeRoundTrip
open Go.ChangeShapes Go.WideShapes Go.ChangeAt Go.RowKit Go.SX Go.Proofs.Ytknpjbbkageiiaa.Cu
set_option linter.unusedVariables false
theorem own : ownKnob Try.prog.godebug = none := by kernel_rfl
theorem laidOut : laidOutB Try.prog = true := by kernel_rfl
theorem wf8 {x : Int} (h : (Lit.int .u8 x).wf = true) : 0 ≤ x ∧ x ≤ 255 := by
  simp [Lit.wf, IntKind.min, IntKind.max, IntKind.signed, IntKind.bits] at h
  omega
theorem wf16 {x : Int} (h : (Lit.int .u16 x).wf = true) : 0 ≤ x ∧ x ≤ 65535 := by
  simp [Lit.wf, IntKind.min, IntKind.max, IntKind.signed, IntKind.bits] at h
  omega
theorem wf64 {x : Int} (h : (Lit.int .i64 x).wf = true) : -9223372036854775808 ≤ x ∧ x ≤ 9223372036854775807 := by
  simp [Lit.wf, IntKind.min, IntKind.max, IntKind.signed, IntKind.bits] at h
  omega
theorem wfu64 {x : Int} (h : (Lit.int .u64 x).wf = true) : 0 ≤ x ∧ x < 18446744073709551616 := by
  simp [Lit.wf, IntKind.min, IntKind.max, IntKind.signed, IntKind.bits] at h
  omega

set_option maxHeartbeats 8000000 in
set_option maxRecDepth 100000 in
theorem lifted (os : Os) (started : os.Started) (H : Type) (enc : TypeId × Value → H) :
    ReturnsInHanded {} Try.checked os 11 .any (Rows.funccodeRoundTripSpec.pre6 enc Try.prog Try.f11 Rows.funccodeRoundTripRow.domain false) (Rows.funccodeRoundTripSpec.post enc Try.prog Try.f11 false true false false) := by
  refine returnsInHanded_of_change_sized (C := Try.checked) own started (by kernel_rfl) Try.func11
    (ChangeSpec.witness6 (enc := enc) (C := Try.checked) false ⟨#[], #[.agg #[.int .i64 0, .int .i64 0, .slice none 0 0], .agg #[.int .i64 0, .int .i64 0, .int .i64 0, .slice none 0 0], .slice none 0 0], []⟩ 8 (by kernel_rfl) (by kernel_rfl) (by kernel_rfl) (by kernel_rfl)) ?_
  intro W base args ds gs before hval0 hW hcnd hsz0 _
  have hval : ∀ (j : Nat) t v, Try.f11.params[j]? = some t → args[j]? = some v → Value.okWide Try.prog W .any base t v := hval0
  have hW' := hW
  obtain ⟨p, q, hA0, hV, rfl, hfz, hnd⟩ := hW
  have hA : DataW.TrodAll enc Try.prog W 0 (fun _ => true) true Try.f11.params.toList args.toList ds p := hA0
  rw [Try.params11] at hA hval
  obtain ⟨v0, vs0, d0, ds0, p0, q0, hargs, rfl, rfl, h0, r0⟩ := trodAll_cons hA
  obtain ⟨v1, vs1, d1, ds1, p1, q1, rfl, rfl, rfl, h1, r1⟩ := trodAll_cons r0
  obtain ⟨v2, vs2, d2, ds2, p2, q2, rfl, rfl, rfl, h2, r2⟩ := trodAll_cons r1
  obtain ⟨rfl, rfl, rfl⟩ := trodAll_nil r2
  obtain rfl : args = #[v0, v1, v2] := by cases args; simp_all
  obtain ⟨rfl, rfl⟩ := trodVars_none hV
  obtain ⟨cs0, rfl, _⟩ := okWide_struct Try.underlying70 (hval 0 70 v0 rfl rfl)
  have k0 := h0
  have lt0 : ∀ x ∈ p0, x.block < W.heap.size := by obtain ⟨m, hm⟩ := k0; exact DataW.trod_lt m _ _ _ hm
  obtain ⟨m0, a0, c0, hm0, s0⟩ : ∃ (m0 : Cu.Fn) (a0 : Option Addr) (c0 : Nat), cs0 = #[.int .i64 m0.args, .int .i64 m0.regs, .slice a0 m0.blocks.length c0] ∧ kBlk.S (heapG W) a0 c0 m0.blocks := by
    obtain ⟨fuel, hf⟩ := h0
    obtain ⟨x, A, c, hx, hS, _⟩ := opens_fn.2 _ _ _ _ _ _ _ _ _ hf
    simp only [Value.cells] at hx
    exact ⟨x, A, c, by rw [← Array.toArray_toList (xs := cs0), hx], hS⟩
  subst hm0
  obtain ⟨cs1, rfl, _⟩ := okWide_struct Try.underlying83 (hval 1 83 v1 rfl rfl)
  have k1 := h1
  have lt1 : ∀ x ∈ p1, x.block < W.heap.size := by obtain ⟨m, hm⟩ := k1; exact DataW.trod_lt m _ _ _ hm
  obtain ⟨m1, a1, c1, hm1, s1⟩ : ∃ (m1 : MFn) (a1 : Option Addr) (c1 : Nat), cs1 = #[.int .i64 m1.args, .int .i64 m1.regs, .int .i64 m1.slots, .slice a1 m1.blocks.length c1] ∧ kMBlk.S (heapG W) a1 c1 m1.blocks := by
    obtain ⟨fuel, hf⟩ := h1
    obtain ⟨x, A, c, hx, hS, _⟩ := opens_mfn.2 _ _ _ _ _ _ _ _ _ hf
    simp only [Value.cells] at hx
    exact ⟨x, A, c, by rw [← Array.toArray_toList (xs := cs1), hx], hS⟩
  subst hm1
  obtain ⟨a2, n2, c2, rfl⟩ := okWide_slice Try.underlying22 (hval 2 22 v2 rfl rfl)
  have k2 := h2
  have lt2 : ∀ x ∈ p2, x.block < W.heap.size := by obtain ⟨m, hm⟩ := k2; exact DataW.trod_lt m _ _ _ hm
  obtain ⟨zs2, hz2⟩ : ∃ zs : List Int, (a2 = none ∧ n2 = 0 ∧ c2 = 0 ∧ zs = []) ∨
      ∃ x, a2 = some x ∧ n2 ≤ c2 ∧ c2 ≤ maxLen ∧ n2 ≤ zs.length ∧ (∀ i, i < zs.length → W.cell? (x.add i) = some (.int .u8 (zs.getD i 0))) ∧ ∀ n ∈ zs, (Lit.int .u8 n).wf = true := by
    obtain ⟨fuel, hf⟩ := h2
    rcases open_ints Try.underlying22 Try.underlying5 (by kernel_rfl) hf with ⟨hcs, _⟩ | ⟨x, l, c, zs, hcs, _, hl, hm, hz, _, hcell, hwz⟩
    · simp [Value.cells] at hcs
      obtain ⟨rfl, rfl, rfl⟩ := hcs
      exact ⟨[], .inl ⟨rfl, rfl, rfl, rfl⟩⟩
    · simp [Value.cells] at hcs
      obtain ⟨rfl, rfl, rfl⟩ := hcs
      exact ⟨zs, .inr ⟨_, rfl, hl, hm, by simp only [if_true] at hz; omega, hcell, hwz⟩⟩
  obtain ⟨hsl2, hlen2, hwf2⟩ := sl_ints hz2
  have s2 : SlB (heapG W) a2 c2 (zs2.take n2) := by unfold SlB; rw [hlen2]; exact hsl2
  have b2 : isB (zs2.take n2) := fun n hn => wf8 (hwf2 n hn)
  generalize zs2.take n2 = l2 at *
  subst hlen2
  clear hA0 hval0 hsz0 hval

  refine (((fround_fn (heapG W) a0 a1 a2 c0 c1 c2 m0 m1 l2 s0 s1 b2 s2).law (ys := [.agg #[.int .i64 m0.args, .int .i64 m0.regs, .slice a0 m0.blocks.length c0], .agg #[.int .i64 m1.args, .int .i64 m1.regs, .int .i64 m1.slots, .slice a1 m1.blocks.length c1], .slice a2 l2.length c2]) (by first | exact ⟨_, _, rfl, ⟨_, rfl, ⟨_, _, rfl, rfl, ⟨_, _, rfl, rfl, ⟨_, _, rfl, rfl, rfl⟩⟩⟩⟩, ⟨_, _, rfl, ⟨_, rfl, ⟨_, _, rfl, rfl, ⟨_, _, rfl, rfl, ⟨_, _, rfl, rfl, ⟨_, _, rfl, rfl, rfl⟩⟩⟩⟩⟩, ⟨_, _, rfl, rfl, rfl⟩⟩⟩ | (simp only [*]; exact ⟨_, _, rfl, ⟨_, rfl, ⟨_, _, rfl, rfl, ⟨_, _, rfl, rfl, ⟨_, _, rfl, rfl, rfl⟩⟩⟩⟩, ⟨_, _, rfl, ⟨_, rfl, ⟨_, _, rfl, rfl, ⟨_, _, rfl, rfl, ⟨_, _, rfl, rfl, ⟨_, _, rfl, rfl, rfl⟩⟩⟩⟩⟩, ⟨_, _, rfl, rfl, rfl⟩⟩⟩))).mono fun e W' hh => ?_)
  obtain ⟨v, sv, H', G', ρ', rfl, ⟨rfl, _⟩, hv, bel⟩ := hh
  obtain rfl : v = .bool true := hv
  exact ⟨_, rfl, _, _, _, [], _, [], hW', trodAll_mk1 (shut_bool Try.underlying4 _), (trodAll_cons_mk (Below.trod laidOut (by kernel_rfl) (of_decide_eq_true (by kernel_rfl)) k0 bel lt0) (trodAll_cons_mk (Below.trod laidOut (by kernel_rfl) (of_decide_eq_true (by kernel_rfl)) k1 bel lt1) (trodAll_cons_mk (Below.trod laidOut (by kernel_rfl) (of_decide_eq_true (by kernel_rfl)) k2 bel lt2) trodAll_mk0))), rfl, bel.frame _, fun h => by cases h⟩
theorem over : Rows.funccodeRoundTripRow.holds Try.pinned (OpenSpec.ofChange Rows.funccodeRoundTripSpec) :=
  OpenClaim.holds_of_wide 11 Try.f11 rfl rfl rfl rfl rfl rfl rfl ⟨rfl, rfl, rfl, rfl, rfl⟩ rfl rfl rfl rfl rfl (by kernel_rfl) Try.func11 (by kernel_rfl)
    (of_decide_eq_true (by kernel_rfl)) (by unfold Func.isWrapper; first | (rw [if_pos (by decide +kernel)]; kernel_rfl) | (rw [if_neg (by decide +kernel)]; exact ⟨rfl, rfl⟩))
    (fun os started H enc _ => lifted os started H enc)
theorem proved : Rows.FunccodeRoundTripSaid := over
end Go.Proofs.Ytknpjbbkageiiaa.funccodeRoundTrip
namespace Go.Proofs.Ytknpjbbkageiiaa
/-- The row, under a short name, for the claim. -/
theorem funccodeRoundTrip_holds : Rows.FunccodeRoundTripSaid := funccodeRoundTrip.proved
#print axioms funccodeRoundTrip_holds
end Go.Proofs.Ytknpjbbkageiiaa
