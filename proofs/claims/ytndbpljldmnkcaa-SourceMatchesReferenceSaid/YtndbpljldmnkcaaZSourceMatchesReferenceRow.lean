/- For every function, instruction and terminator, all functions return what the reference implementation returns. No condition. -/
import Derived.Test.YtndbpljldmnkcaaRows
import Derived.Test.YtndbpljldmnkcaaZSourceMatchesReference32
import Derived.Test.YtndbpljldmnkcaaZSourceMatchesReference34
import Derived.WalkKit
import Derived.ProofKit
import Derived.OpenShut
import Derived.ShutString
import Derived.ChangeOld
import Derived.Below
import Derived.SizedLaws
import Derived.WideShapes
namespace Go.Proofs.Ytndbpljldmnkcaa.sourceMatchesReference
open Go.ChangeShapes Go.WideShapes Go.ChangeAt Go.RowKit Go.Proofs.YtndbpljldmnkcaaW.PrintWords Go.Proofs.YtndbpljldmnkcaaW.PrintLast Go.Proofs.Ytndbpljldmnkcaa.PSourceMatchesReference
open Go.ChangeMaps (open_string shut_string)
set_option linter.unusedVariables false
theorem own : ownKnob Try.prog.godebug = none := by kernel_rfl
theorem laidOut : laidOutB Try.prog = true := by kernel_rfl
set_option maxRecDepth 100000 in
theorem lifted (os : Os) (started : os.Started) (H : Type) (enc : TypeId × Value → H) :
    ReturnsInHanded {} Try.checked os 8 .any (Rows.sourceMatchesReferenceSpec.pre6 enc Try.prog Try.f8 Rows.sourceMatchesReferenceRow.domain false) (Rows.sourceMatchesReferenceSpec.post enc Try.prog Try.f8 false true false false) := by
  refine returnsInHanded_of_change_sized (C := Try.checked) own started (by kernel_rfl) Try.func8
    (ChangeSpec.witness6 (enc := enc) (C := Try.checked) false ⟨#[], #[(.agg #[(.int .i64 0), (.int .i64 0), (.slice none 0 0)]), (.agg #[(.int .i64 0), (.int .i64 0), (.int .i64 0), (.int .i64 0), (.int .i64 0)]), (.agg #[(.int .i64 0), (.int .i64 0), (.int .i64 0), (.int .i64 0)]), .int .i64 0, .int .i64 0], []⟩ 8 (by kernel_rfl) (by kernel_rfl) (by kernel_rfl) (by kernel_rfl)) ?_
  intro W base args ds gs before hval0 hW hcnd hsz0 _
  have hval : ∀ (j : Nat) t v, Try.f8.params[j]? = some t → args[j]? = some v → Value.okWide Try.prog W .any base t v := hval0
  have hW' := hW
  obtain ⟨p, q, hA0, hV, rfl, hfz, hnd⟩ := hW
  have hA : DataW.TrodAll enc Try.prog W 0 (fun _ => true) true Try.f8.params.toList args.toList ds p := hA0
  rw [Try.params8] at hA hval
  obtain ⟨v0, vs0, d0, ds0, p0, q0, hargs, rfl, rfl, h0, r0⟩ := trodAll_cons hA
  obtain ⟨v1, vs1, d1, ds1, p1, q1, rfl, rfl, rfl, h1, r1⟩ := trodAll_cons r0
  obtain ⟨v2, vs2, d2, ds2, p2, q2, rfl, rfl, rfl, h2, r2⟩ := trodAll_cons r1
  obtain ⟨v3, vs3, d3, ds3, p3, q3, rfl, rfl, rfl, h3, r3⟩ := trodAll_cons r2
  obtain ⟨v4, vs4, d4, ds4, p4, q4, rfl, rfl, rfl, h4, r4⟩ := trodAll_cons r3
  obtain ⟨rfl, rfl, rfl⟩ := trodAll_nil r4
  obtain rfl : args = #[v0, v1, v2, v3, v4] := by cases args; simp_all
  obtain ⟨rfl, rfl⟩ := trodVars_none hV
  have k0 := h0
  have lt0 : ∀ x ∈ p0, x.block < W.heap.size := by obtain ⟨m, hm⟩ := k0; exact DataW.trod_lt m _ _ _ hm
  obtain ⟨cs0, rfl, _⟩ := okWide_struct Try.underlying50 (hval 0 50 v0 rfl rfl)
  obtain ⟨fu0, hf0⟩ := h0
  obtain ⟨x0, hk0, wf0⟩ := (opens50).2 H enc W _ _ _ fu0 _ _ hf0
  obtain ⟨A0_0, c0_0, e0, hc0_0, hr0_0⟩ := k50_open hk0
  have e0' := congrArg List.toArray e0
  simp only [Value.cells, Array.toArray_toList] at e0'
  subst e0'
  have k1 := h1
  have lt1 : ∀ x ∈ p1, x.block < W.heap.size := by obtain ⟨m, hm⟩ := k1; exact DataW.trod_lt m _ _ _ hm
  obtain ⟨cs1, rfl, _⟩ := okWide_struct Try.underlying52 (hval 1 52 v1 rfl rfl)
  obtain ⟨fu1, hf1⟩ := h1
  obtain ⟨x1, hk1, wf1⟩ := (opens52).2 H enc W _ _ _ fu1 _ _ hf1
  have e1 := k52_open hk1
  have e1' := congrArg List.toArray e1
  simp only [Value.cells, Array.toArray_toList] at e1'
  subst e1'
  have k2 := h2
  have lt2 : ∀ x ∈ p2, x.block < W.heap.size := by obtain ⟨m, hm⟩ := k2; exact DataW.trod_lt m _ _ _ hm
  obtain ⟨cs2, rfl, _⟩ := okWide_struct Try.underlying54 (hval 2 54 v2 rfl rfl)
  obtain ⟨fu2, hf2⟩ := h2
  obtain ⟨x2, hk2, wf2⟩ := (opens54).2 H enc W _ _ _ fu2 _ _ hf2
  have e2 := k54_open hk2
  have e2' := congrArg List.toArray e2
  simp only [Value.cells, Array.toArray_toList] at e2'
  subst e2'
  obtain ⟨a3, rfl, rfl, rfl, w3⟩ := open_int Try.underlying3 (hval 3 3 v3 rfl rfl) h3
  obtain ⟨a4, rfl, rfl, rfl, w4⟩ := open_int Try.underlying3 (hval 4 3 v4 rfl rfl) h4
  obtain ⟨k, hp⟩ := Pure.SourceMatchesReference x0 x1 x2 a3 a4 wf0 wf1 wf2 w3 w4
  clear hA0 hval0 hsz0 hval
  refine (regcertlaw07_SourceMatchesReference.calls k x0.f0 x0.f1 _ _ x0.f2 x1.f0 x1.f1 x1.f2 x1.f3 x1.f4 x2.f0 x2.f1 x2.f2 x2.f3 a3 a4 true W hr0_0 hc0_0 hp).mono fun e W' ⟨he, bel0⟩ => ?_
  have bel : Below W.heap.size W W' := by first | exact bel0 | exact bel0.below
  subst he
  exact ⟨_, rfl, _, _, _, [], _, [], hW', trodAll_mk1 (shut_bool Try.underlying4 _), (trodAll_cons_mk (Below.trod laidOut (by kernel_rfl) (of_decide_eq_true (by kernel_rfl)) k0 bel lt0) (trodAll_cons_mk (Below.trod laidOut (by kernel_rfl) (of_decide_eq_true (by kernel_rfl)) k1 bel lt1) (trodAll_cons_mk (Below.trod laidOut (by kernel_rfl) (of_decide_eq_true (by kernel_rfl)) k2 bel lt2) (trodAll_cons_mk (shut_int Try.underlying3 w3) (trodAll_cons_mk (shut_int Try.underlying3 w4) trodAll_mk0))))), rfl, bel.frame _, fun h => by cases h⟩
theorem over : Rows.sourceMatchesReferenceRow.holds Try.pinned (OpenSpec.ofChange Rows.sourceMatchesReferenceSpec) :=
  OpenClaim.holds_of_wide 8 Try.f8 rfl rfl rfl rfl rfl rfl rfl ⟨rfl, rfl, rfl, rfl, rfl⟩ rfl rfl rfl rfl rfl (by kernel_rfl) Try.func8 (by kernel_rfl)
    (of_decide_eq_true (by kernel_rfl)) (by unfold Func.isWrapper; first | (rw [if_pos (by decide +kernel)]; kernel_rfl) | (rw [if_neg (by decide +kernel)]; exact ⟨rfl, rfl⟩))
    (fun os started H enc _ => lifted os started H enc)
theorem proved : Rows.SourceMatchesReferenceSaid := over
#print axioms proved
end Go.Proofs.Ytndbpljldmnkcaa.sourceMatchesReference
namespace Go.Proofs.Ytndbpljldmnkcaa
theorem sourceMatchesReference_holds : Rows.SourceMatchesReferenceSaid := sourceMatchesReference.proved
end Go.Proofs.Ytndbpljldmnkcaa
