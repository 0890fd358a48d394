/- The row of CertcodeMatchesReference, by the symbolic walk. -/
import Derived.Test.YtchebkpcgglllaaGreatRows
import Derived.Test.YtchebkpcgglllaaGreatCcz
import Derived.Test.YtchebkpcgglllaaGreatOpy
import Derived.ProofKit
import Derived.OpenShut
import Derived.ShutString
import Derived.ChangeOld
import Derived.Below
import Derived.SizedLaws
import Derived.WideShapes

namespace Go.Proofs.YtchebkpcgglllaaGreat.certcodeMatchesReference
open Go.ChangeShapes Go.WideShapes Go.ChangeAt Go.RowKit Go.SX Go.Proofs.YtchebkpcgglllaaGreat.Cu
set_option linter.unusedVariables false
theorem own : ownKnob Tryz.prog.godebug = none := by kernel_rfl
theorem laidOut : laidOutB Tryz.prog = true := by kernel_rfl
theorem wf8 {x : Int} (h : (Lit.int .u8 x).wf = true) : 0 ≤ x ∧ x ≤ 255 := by
  simp [Lit.wf, IntKind.min, IntKind.max, IntKind.signed, IntKind.bits] at h
  omega
set_option maxHeartbeats 8000000 in
set_option maxRecDepth 100000 in
theorem lifted (os : Os) (started : os.Started) (H : Type) (enc : TypeId × Value → H) :
    ReturnsInHanded {} Tryz.checked os 3 .any (Rows.certcodeMatchesReferenceSpec.pre6 enc Tryz.prog Tryz.f3 Rows.certcodeMatchesReferenceRow.domain false) (Rows.certcodeMatchesReferenceSpec.post enc Tryz.prog Tryz.f3 false true false false) := by
  refine returnsInHanded_of_change_sized (C := Tryz.checked) own started (by kernel_rfl) Tryz.func3
    (ChangeSpec.witness6 (enc := enc) (C := Tryz.checked) false ⟨#[], #[.slice none 0 0, .agg #[.int .i64 0, .int .i64 0, .slice none 0 0, .int .i64 0, .int .i64 0, .int .i64 0, .slice none 0 0, .slice none 0 0]], []⟩ 8 (by kernel_rfl) (by kernel_rfl) (by kernel_rfl) (by kernel_rfl)) ?_
  intro W base args ds gs before hval0 hW hcnd hsz0 _
  have hval : ∀ (j : Nat) t v, Tryz.f3.params[j]? = some t → args[j]? = some v → Value.okWide Tryz.prog W .any base t v := hval0
  have hW' := hW
  obtain ⟨p, q, hA0, hV, rfl, hfz, hnd⟩ := hW
  have hA : DataW.TrodAll enc Tryz.prog W 0 (fun _ => true) true Tryz.f3.params.toList args.toList ds p := hA0
  rw [Tryz.params3] at hA hval
  obtain ⟨v0, vs0, d0, ds0, p0, q0, hargs, rfl, rfl, h0, r0⟩ := trodAll_cons hA
  obtain ⟨v1, vs1, d1, ds1, p1, q1, rfl, rfl, rfl, h1, r1⟩ := trodAll_cons r0
  obtain ⟨rfl, rfl, rfl⟩ := trodAll_nil r1
  obtain rfl : args = #[v0, v1] := by cases args; simp_all
  obtain ⟨rfl, rfl⟩ := trodVars_none hV
  obtain ⟨a0, n0, c0, rfl⟩ := okWide_slice Tryz.underlying22 (hval 0 22 v0 rfl rfl)
  have k0 := h0
  have lt0 : ∀ x ∈ p0, x.block < W.heap.size := by obtain ⟨m, hm⟩ := k0; exact DataW.trod_lt m _ _ _ hm
  obtain ⟨zs0, hz0⟩ : ∃ zs : List Int, (a0 = none ∧ n0 = 0 ∧ c0 = 0 ∧ zs = []) ∨
      ∃ x, a0 = some x ∧ n0 ≤ c0 ∧ c0 ≤ maxLen ∧ n0 ≤ zs.length ∧ (∀ i, i < zs.length → W.cell? (x.add i) = some (.int .u8 (zs.getD i 0))) ∧ ∀ n ∈ zs, (Lit.int .u8 n).wf = true := by
    obtain ⟨fuel, hf⟩ := h0
    rcases open_ints Tryz.underlying22 Tryz.underlying5 (by kernel_rfl) hf with ⟨hcs, _⟩ | ⟨x, l, c, zs, hcs, _, hl, hm, hz, _, hcell, hwz⟩
    · simp [Value.cells] at hcs
      obtain ⟨rfl, rfl, rfl⟩ := hcs
      exact ⟨[], .inl ⟨rfl, rfl, rfl, rfl⟩⟩
    · simp [Value.cells] at hcs
      obtain ⟨rfl, rfl, rfl⟩ := hcs
      exact ⟨zs, .inr ⟨_, rfl, hl, hm, by simp only [if_true] at hz; omega, hcell, hwz⟩⟩
  obtain ⟨hsl0, hlen0, hwf0⟩ := sl_ints hz0
  have s0 : SlB (heapG W) a0 c0 (zs0.take n0) := by unfold SlB; rw [hlen0]; exact hsl0
  have b0 : isB (zs0.take n0) := fun n hn => wf8 (hwf0 n hn)
  generalize zs0.take n0 = l0 at *
  subst hlen0
  obtain ⟨cs1, rfl, _⟩ := okWide_struct Tryz.underlying31 (hval 1 31 v1 rfl rfl)
  have k1 := h1
  have lt1 : ∀ x ∈ p1, x.block < W.heap.size := by obtain ⟨m, hm⟩ := k1; exact DataW.trod_lt m _ _ _ hm
  obtain ⟨m1, A1, a1, B1, b1, C1, c1, hm1, s1⟩ : ∃ (m1 : Crt) (A1 : Option Addr) (a1 : Nat) (B1 : Option Addr) (b1 : Nat) (C1 : Option Addr) (c1 : Nat), cs1 = #[.int .i64 m1.s.args, .int .i64 m1.s.regs, .slice A1 m1.s.blocks.length a1, .int .i64 m1.t.args, .int .i64 m1.t.regs, .int .i64 m1.t.slots, .slice B1 m1.t.blocks.length b1, .slice C1 m1.w.length c1] ∧ CrtG (heapG W) A1 B1 C1 a1 b1 c1 m1 := by
    obtain ⟨fuel, hf⟩ := h1
    obtain ⟨x, A, a, B, b, C, c, hx, hS⟩ := opens_crt.2 _ _ _ _ _ _ _ _ _ hf
    simp only [Value.cells] at hx
    exact ⟨x, A, a, B, b, C, c, by rw [← Array.toArray_toList (xs := cs1), hx]; rfl, hS⟩
  subst hm1
  clear hA0 hval0 hsz0 hval

  refine ((((cmatch_fn (G := heapG W) (x := m1) b0 s0 s1)).law (ys := [.slice a0 l0.length c0, .agg #[.int .i64 m1.s.args, .int .i64 m1.s.regs, .slice A1 m1.s.blocks.length a1, .int .i64 m1.t.args, .int .i64 m1.t.regs, .int .i64 m1.t.slots, .slice B1 m1.t.blocks.length b1, .slice C1 m1.w.length c1]]) (by first | exact ⟨_, _, rfl, rfl, ⟨_, _, rfl, ⟨_, rfl, ⟨_, _, rfl, rfl, ⟨_, _, rfl, rfl, ⟨_, _, rfl, rfl, ⟨_, _, rfl, rfl, ⟨_, _, rfl, rfl, ⟨_, _, rfl, rfl, ⟨_, _, rfl, rfl, ⟨_, _, rfl, rfl, rfl⟩⟩⟩⟩⟩⟩⟩⟩⟩, rfl⟩⟩ | (simp only [*]; exact ⟨_, _, rfl, rfl, ⟨_, _, rfl, ⟨_, rfl, ⟨_, _, rfl, rfl, ⟨_, _, rfl, rfl, ⟨_, _, rfl, rfl, ⟨_, _, rfl, rfl, ⟨_, _, rfl, rfl, ⟨_, _, rfl, rfl, ⟨_, _, rfl, rfl, ⟨_, _, rfl, rfl, rfl⟩⟩⟩⟩⟩⟩⟩⟩⟩, rfl⟩⟩))).mono fun e W' hh => ?_)
  obtain ⟨v, sv, H', G', ρ', rfl, ⟨rfl, _⟩, hv, bel⟩ := hh
  obtain rfl : v = .bool true := hv
  exact ⟨_, rfl, _, _, _, [], _, [], hW', trodAll_mk1 (shut_bool Tryz.underlying4 _), (trodAll_cons_mk (Below.trod laidOut (by kernel_rfl) (of_decide_eq_true (by kernel_rfl)) k0 bel lt0) (trodAll_cons_mk (Below.trod laidOut (by kernel_rfl) (of_decide_eq_true (by kernel_rfl)) k1 bel lt1) trodAll_mk0)), rfl, bel.frame _, fun h => by cases h⟩
theorem over : Rows.certcodeMatchesReferenceRow.holds Tryz.pinned (OpenSpec.ofChange Rows.certcodeMatchesReferenceSpec) :=
  OpenClaim.holds_of_wide 3 Tryz.f3 rfl rfl rfl rfl rfl rfl rfl ⟨rfl, rfl, rfl, rfl, rfl⟩ rfl rfl rfl rfl rfl (by kernel_rfl) Tryz.func3 (by kernel_rfl)
    (of_decide_eq_true (by kernel_rfl)) (by unfold Func.isWrapper; first | (rw [if_pos (by decide +kernel)]; kernel_rfl) | (rw [if_neg (by decide +kernel)]; exact ⟨rfl, rfl⟩))
    (fun os started H enc _ => lifted os started H enc)
theorem proved : Rows.CertcodeMatchesReferenceSaid := over
end Go.Proofs.YtchebkpcgglllaaGreat.certcodeMatchesReference
namespace Go.Proofs.YtchebkpcgglllaaGreat
/-- The row, under a short name, for the claim. -/
theorem certcodeMatchesReference_holds : Rows.CertcodeMatchesReferenceSaid := certcodeMatchesReference.proved
#print axioms certcodeMatchesReference_holds
end Go.Proofs.YtchebkpcgglllaaGreat
