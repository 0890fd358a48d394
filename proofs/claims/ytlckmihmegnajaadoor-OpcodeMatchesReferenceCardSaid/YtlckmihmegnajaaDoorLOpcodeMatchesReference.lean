/- The row of OpcodeMatchesReference, by the symbolic walk. -/
import Derived.Test.YtlckmihmegnajaaDoorRows
import Derived.Test.YtlckmihmegnajaaDoorCards
import Derived.Test.YtlckmihmegnajaaDoorTie
import Derived.SevenTiedAt
import Derived.Test.YtlckmihmegnajaaDoorOc4
import Derived.ProofKit
import Derived.OpenShut
import Derived.ShutString
import Derived.ChangeOld
import Derived.Below
import Derived.SizedLaws
import Derived.WideShapes
import Derived.LaidMore
import Derived.Stop.Joined
import Derived.MakeChecks

namespace Go.Proofs.YtlckmihmegnajaaDoor.opcodeMatchesReference
open Go.ChangeShapes Go.WideShapes Go.ChangeAt Go.RowKit Go.SX Go.Proofs.YtlckmihmegnajaaDoor.Cu
set_option linter.unusedVariables false
theorem own : ownKnob Tryd.prog.godebug = none := by kernel_rfl
theorem laidOut : laidOutB Tryd.prog = true := by kernel_rfl
theorem wf8 {x : Int} (h : (Lit.int .u8 x).wf = true) : 0 ≤ x ∧ x ≤ 255 := by
  simp [Lit.wf, IntKind.min, IntKind.max, IntKind.signed, IntKind.bits] at h
  omega
theorem wf16 {x : Int} (h : (Lit.int .u16 x).wf = true) : 0 ≤ x ∧ x ≤ 65535 := by
  simp [Lit.wf, IntKind.min, IntKind.max, IntKind.signed, IntKind.bits] at h
  omega
theorem wf64 {x : Int} (h : (Lit.int .i64 x).wf = true) : -9223372036854775808 ≤ x ∧ x ≤ 9223372036854775807 := by
  simp [Lit.wf, IntKind.min, IntKind.max, IntKind.signed, IntKind.bits] at h
  omega
theorem wfu64 {x : Int} (h : (Lit.int .u64 x).wf = true) : 0 ≤ x ∧ x < 18446744073709551616 := by
  simp [Lit.wf, IntKind.min, IntKind.max, IntKind.signed, IntKind.bits] at h
  omega

theorem gN : Tryd.prog.globalNamed "regcert/opcode.names" = some 0 := by kernel_rfl
theorem tN : (Tryd.prog.globals[0]?).map (·.type) = some 33 := by kernel_rfl
/-- What the variable holds when the call begins. -/
noncomputable def laidN : List (String × DataW Unit) := [("regcert/opcode.names", Rows.laid_regcert_opcode_names)]
theorem door_met (os : Os) (args : Array Value) : laidMetH Tryd.prog laidN ((World.doorLaid Tryd.prog 400 os).forCall (fun _ _ => 0) ⟨#[], args, []⟩).memory :=
  laidMetH_of_parts3 (fuel := 8) (laidMet_of_run' 8 (by kernel_rfl) (by kernel_rfl)) (by kernel_rfl) (by kernel_rfl)
theorem names_of {W : World} (h : laidMetH Tryd.prog laidN W) : Gat (heapG W) ⟨0, 0, none⟩ nmV := by
  rw [MakeChecks.laidMetH_plain _ _ _ (by kernel_rfl)] at h
  obtain ⟨ps, ⟨g0, t0, cs0, f0, p0, q0, hg0, ht0, hv0, hd0, _⟩, _, _⟩ := h
  obtain rfl := Option.some.inj (gN.symm.trans hg0)
  obtain rfl := Option.some.inj (tN.symm.trans ht0)
  obtain ⟨xs, m1, rfl, hx1, hlen, hn, hel⟩ := DataW.trod_array Tryd.underlying33 hd0
  have c1 : Tryd.prog.cellsOf 9 = 1 := by kernel_rfl
  simp only [Prod.mk.injEq] at hx1
  have hxs := hx1.1
  intro i v hi
  have hi19 : i < 19 := (List.getElem?_eq_some_iff.1 hi).1
  have h1 := hel i hi19
  rw [c1, Nat.mul_one, List.getElem?_eq_getElem (by omega)] at h1
  obtain ⟨s, e1, e2, _⟩ := DataW.trod_string Tryd.underlying9 h1
  have hl : nmB.map (fun l => (DataW.lit (.string l) : DataW Unit)) = xs.map (·.1) := by
    have h2 : DataW.agg (nmB.map (fun l => (DataW.lit (.string l) : DataW Unit))) = DataW.agg (xs.map (·.1)) := hxs
    exact DataW.agg.inj h2
  have h3 := congrArg (fun l : List (DataW Unit) => l[i]?) hl
  simp only [List.getElem?_map] at h3
  have hix : i < xs.length := by omega
  have hin : i < nmB.length := hi19
  rw [List.getElem?_eq_getElem hix, List.getElem?_eq_getElem hin] at h3
  simp only [Option.map_some, Option.some.injEq] at h3
  rw [e2] at h3
  have h4 : nmB[i] = s.data.toList := by
    have := DataW.lit.inj h3
    exact Lit.string.inj this
  have h5 : v = .string s := by
    unfold nmV at hi
    rw [List.getElem?_map, List.getElem?_eq_getElem hin] at hi
    simp only [Option.map_some, Option.some.injEq] at hi
    rw [← hi, h4]
    unfold strV
    simp
  have h6 : cs0.toList[i]? = some (.string s) := by
    have := congrArg (fun l : List Value => l[0]?) e1
    simpa [List.getElem?_take, List.getElem?_drop] using this
  have h7 := World.var?_cell hg0 hv0 i
  have h8 : cs0[i]? = some (.string s) := by simpa using h6
  rw [h8] at h7
  rw [h5, add_off, Nat.zero_add]
  unfold Gcell heapG
  unfold World.cell? at h7
  cases hw : W.heap[0]? with
  | none => simp [hw] at h7
  | some o => cases o <;> simp_all
set_option maxHeartbeats 8000000 in
set_option maxRecDepth 100000 in
theorem lifted (os : Os) (started : os.Started) (H : Type) (enc : TypeId × Value → H) :
    ReturnsInHanded {} Tryd.checked os 3 .any (fun w args => (Rows.opcodeMatchesReferenceSpec.pre enc Tryd.prog Tryd.f3 [] false w args ∧ laidMetH Tryd.prog laidN w) ∧ sizedMet enc Tryd.prog Tryd.f3 (OpenSpec.ofChange Rows.opcodeMatchesReferenceSpec) false w args) (Rows.opcodeMatchesReferenceSpec.post enc Tryd.prog Tryd.f3 false true false false) := by
  refine returnsInHanded_of_change_and (C := Tryd.checked) (X := fun w _ => laidMetH Tryd.prog laidN w) (fun _ _ _ hh h => h.of_heap hh) own started (by kernel_rfl) Tryd.func3
    (ChangeSpec.witness_shaped (enc := enc) (C := Tryd.checked) (os := os) (X := fun w _ => laidMetH Tryd.prog laidN w) false (World.doorLaid Tryd.prog 400 os) #[.int .i64 0, .string ⟨#[]⟩] 8 rfl (World.shaped_of_RefB (by kernel_rfl) (by kernel_rfl)) (by kernel_rfl) (by kernel_rfl) (by kernel_rfl) (door_met os _)) ?_
  intro W base args ds gs before hval0 hW _ _ hL _
  have hval : ∀ (j : Nat) t v, Tryd.f3.params[j]? = some t → args[j]? = some v → Value.okWide Tryd.prog W .any base t v := hval0
  have hW' := hW
  obtain ⟨p, q, hA0, hV, rfl, hfz, hnd⟩ := hW
  have hA : DataW.TrodAll enc Tryd.prog W 0 (fun _ => true) true Tryd.f3.params.toList args.toList ds p := hA0
  rw [Tryd.params3] at hA hval
  obtain ⟨v0, vs0, d0, ds0, p0, q0, hargs, rfl, rfl, h0, r0⟩ := trodAll_cons hA
  obtain ⟨v1, vs1, d1, ds1, p1, q1, rfl, rfl, rfl, h1, r1⟩ := trodAll_cons r0
  obtain ⟨rfl, rfl, rfl⟩ := trodAll_nil r1
  obtain rfl : args = #[v0, v1] := by cases args; simp_all
  obtain ⟨rfl, rfl⟩ := trodVars_none hV
  obtain ⟨a0, rfl, rfl, rfl, w0⟩ := open_int Tryd.underlying3 (hval 0 3 v0 rfl rfl) h0
  obtain ⟨a1, rfl, rfl, rfl, w1⟩ := Go.ChangeMaps.open_string Tryd.underlying9 (hval 1 9 v1 rfl rfl) h1
  clear hA0 hval0 hval

  refine (((refLaw_fn (heapG W) a0 a1 (names_of hL)).law (ys := [.int .i64 a0, .string a1]) (by first | exact ⟨_, _, rfl, rfl, ⟨_, _, rfl, rfl, rfl⟩⟩ | (simp only [*]; exact ⟨_, _, rfl, rfl, ⟨_, _, rfl, rfl, rfl⟩⟩))).mono fun e W' hh => ?_)
  obtain ⟨v, sv, H', G', ρ', rfl, ⟨rfl, _⟩, hv, bel⟩ := hh
  obtain rfl : v = .bool true := hv
  exact ⟨_, rfl, _, _, _, [], _, [], hW', trodAll_mk1 (shut_bool Tryd.underlying4 _), (trodAll_cons_mk (shut_int Tryd.underlying3 w0) (trodAll_cons_mk (Go.ChangeMaps.shut_string Tryd.underlying9 w1) trodAll_mk0)), rfl, bel.frame _, fun h => by cases h⟩
theorem over : Rows.opcodeMatchesReferenceRow.holds Tryd.pinned (OpenSpec.ofChange Rows.opcodeMatchesReferenceSpec) :=
  OpenClaim.holds_of_wide 3 Tryd.f3 rfl rfl rfl rfl rfl rfl rfl ⟨rfl, rfl, rfl, rfl, rfl⟩ rfl rfl rfl rfl rfl (by kernel_rfl) Tryd.func3 (by kernel_rfl)
    (of_decide_eq_true (by kernel_rfl)) (by unfold Func.isWrapper; first | (rw [if_pos (by decide +kernel)]; kernel_rfl) | (rw [if_neg (by decide +kernel)]; exact ⟨rfl, rfl⟩))
    (fun os started H enc _ => lifted os started H enc)
theorem proved : Rows.OpcodeMatchesReferenceCardSaid :=
  Claim7.holds_tied_plain_at .later [] [.data] true (true, "2bb75ad0689590b65c91afb85e95f65d4e5f5ffef319b0825d1238b65fafaddc") false
    over (fun _ h => by cases h) (by kernel_rfl) (fun _ h => by cases h) opcodeMatchesReference_row_tie rfl ⟨rfl, rfl⟩ (by kernel_rfl) rfl
    (fun f fn hf hfn => by
      obtain rfl : f = 3 := Option.some.inj ((show Tryd.prog.funcNamed "regcert/regcertlaw05.OpcodeMatchesReference" = some 3 by kernel_rfl).symm.trans hf) |>.symm
      obtain rfl : fn = Tryd.f3 := (Option.some.inj (Tryd.func3.symm.trans hfn)).symm
      exact ⟨by kernel_rfl, fun j t ht => by
        rw [Tryd.params3] at ht
        have h3 : t = 3 ∨ t = 9 := by
          rcases j with _ | _ | j
          · exact Or.inl (by simpa using ht.symm)
          · exact Or.inr (by simpa using ht.symm)
          · simp at ht
        rcases h3 with rfl | rfl
        · exact (show Tryd.prog.wantsStandIn 3 = false by kernel_rfl)
        · exact (show Tryd.prog.wantsStandIn 9 = false by kernel_rfl)⟩)
    (by kernel_rfl)
end Go.Proofs.YtlckmihmegnajaaDoor.opcodeMatchesReference
namespace Go.Proofs.YtlckmihmegnajaaDoor
/-- The card, under a short name, for the claim. -/
theorem opcodeMatchesReference_holds : Rows.OpcodeMatchesReferenceCardSaid := opcodeMatchesReference.proved
#print axioms opcodeMatchesReference_holds
end Go.Proofs.YtlckmihmegnajaaDoor
