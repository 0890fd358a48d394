/-
  No cell of these rows narrows 'for every input' (looked for: loops, veiled, ifaces, maps, wideKeys, modest, calm, conditions, laid).
  DERIVED. THE GIVEN ROWS OF THIS SEAT. 8 by the template 'for every input the law returns true; each argument reads behind the call as it read before'; 0 by the template 'total and deterministic' (their statements: YtgdfhpknhcjipaaTotals.lean).
  GIVEN WITH THE SEED: the statements are not yours to turn. If you find one false, say at which input.
  Laid BY PROGRAM, IN A SANDBOX (cutbox-rows.mjs): the forced cells as the released guide's own fill.sh prints them over the translation 66e4992703fadac0… (all of the seat's roots in one cut). By AI agents, Wed Nov 11 2026. No macro, syntax, notation, axiom, sorry.
-/
import Derived.Test.YtgdfhpknhcjipaaChecked
import GoSem.Claim
import GoSem.ClaimJoined
import GoSem.ClaimMapViews
import Derived.JoinedTies
import Derived.KernelRfl
namespace Go.Proofs.Ytgdfhpknhcjipaa
/- THE CELL 'sum', in the pinned program and in every row, IS THE sha256 OF THE DUMP (.gsa) THAT YtgdfhpknhcjipaaProg.lean LOADS. Nothing in Lean hashes anything: it is a label: what it is worth is what the hold of that sum in a sandbox is worth. -/
noncomputable def Try.pinned : Pinned := { name := "ytgdfhpknhcjipaa", sum := "66e4992703fadac023e7fb11e55d2f9828c598e530907180bdfd37708ced4dd0", checked := Try.checked }
namespace Rows
def none {H : Type} : Left H := { results := [], args := [] }

/-- 'regcertlaw03.SectionMatchesReference': WHATEVER THE INPUT: true; the input reads as it did. -/
def sectionMatchesReferenceSpec : ChangeSpec := { name := "sectionMatchesReference", fn := fun _ => fun
  | [d1, d2, d3] => { results := [.lit (.bool true)], args := [d1, d2, d3] }
  | _ => none }
def sectionMatchesReferenceRow : OpenClaim := { program := "ytgdfhpknhcjipaa", sum := "66e4992703fadac023e7fb11e55d2f9828c598e530907180bdfd37708ced4dd0", func := "regcert/regcertlaw03.SectionMatchesReference", spec := "sectionMatchesReference", unfollowed := true, recurses := true, apart := false }
def SectionMatchesReferenceSaid : Prop := sectionMatchesReferenceRow.holds Try.pinned (OpenSpec.ofChange sectionMatchesReferenceSpec)

/-- ITS FALSE NEIGHBOUR: 'it returns false'. Refute it at one input. -/
def sectionMatchesReferenceWrong : ChangeSpec := { name := "sectionMatchesReference", fn := fun _ => fun
  | [d1, d2, d3] => { results := [.lit (.bool false)], args := [d1, d2, d3] }
  | _ => none }
def SectionMatchesReferenceWrongFalsely : Prop := sectionMatchesReferenceRow.holds Try.pinned (OpenSpec.ofChange sectionMatchesReferenceWrong)

/-- 'regcertlaw03.SectionBijection': WHATEVER THE INPUT: true; the input reads as it did. -/
def sectionBijectionSpec : ChangeSpec := { name := "sectionBijection", fn := fun _ => fun
  | [d1, d2, d3] => { results := [.lit (.bool true)], args := [d1, d2, d3] }
  | _ => none }
def sectionBijectionRow : OpenClaim := { program := "ytgdfhpknhcjipaa", sum := "66e4992703fadac023e7fb11e55d2f9828c598e530907180bdfd37708ced4dd0", func := "regcert/regcertlaw03.SectionBijection", spec := "sectionBijection", unfollowed := true, recurses := true, apart := false }
def SectionBijectionSaid : Prop := sectionBijectionRow.holds Try.pinned (OpenSpec.ofChange sectionBijectionSpec)

/-- ITS FALSE NEIGHBOUR: 'it returns false'. Refute it at one input. -/
def sectionBijectionWrong : ChangeSpec := { name := "sectionBijection", fn := fun _ => fun
  | [d1, d2, d3] => { results := [.lit (.bool false)], args := [d1, d2, d3] }
  | _ => none }
def SectionBijectionWrongFalsely : Prop := sectionBijectionRow.holds Try.pinned (OpenSpec.ofChange sectionBijectionWrong)

/-- 'regcertlaw03.SectionDamage': WHATEVER THE INPUT: true; the input reads as it did. -/
def sectionDamageSpec : ChangeSpec := { name := "sectionDamage", fn := fun _ => fun
  | [d1, d2, d3, d4, d5] => { results := [.lit (.bool true)], args := [d1, d2, d3, d4, d5] }
  | _ => none }
def sectionDamageRow : OpenClaim := { program := "ytgdfhpknhcjipaa", sum := "66e4992703fadac023e7fb11e55d2f9828c598e530907180bdfd37708ced4dd0", func := "regcert/regcertlaw03.SectionDamage", spec := "sectionDamage", unfollowed := true, recurses := true, apart := false }
def SectionDamageSaid : Prop := sectionDamageRow.holds Try.pinned (OpenSpec.ofChange sectionDamageSpec)

/-- ITS FALSE NEIGHBOUR: 'it returns false'. Refute it at one input. -/
def sectionDamageWrong : ChangeSpec := { name := "sectionDamage", fn := fun _ => fun
  | [d1, d2, d3, d4, d5] => { results := [.lit (.bool false)], args := [d1, d2, d3, d4, d5] }
  | _ => none }
def SectionDamageWrongFalsely : Prop := sectionDamageRow.holds Try.pinned (OpenSpec.ofChange sectionDamageWrong)

/-- 'regcertlaw03.SectionKeeps': WHATEVER THE INPUT: true; the input reads as it did. -/
def sectionKeepsSpec : ChangeSpec := { name := "sectionKeeps", fn := fun _ => fun
  | [d1, d2] => { results := [.lit (.bool true)], args := [d1, d2] }
  | _ => none }
def sectionKeepsRow : OpenClaim := { program := "ytgdfhpknhcjipaa", sum := "66e4992703fadac023e7fb11e55d2f9828c598e530907180bdfd37708ced4dd0", func := "regcert/regcertlaw03.SectionKeeps", spec := "sectionKeeps", unfollowed := true, recurses := true, apart := false }
def SectionKeepsSaid : Prop := sectionKeepsRow.holds Try.pinned (OpenSpec.ofChange sectionKeepsSpec)

/-- ITS FALSE NEIGHBOUR: 'it returns false'. Refute it at one input. -/
def sectionKeepsWrong : ChangeSpec := { name := "sectionKeeps", fn := fun _ => fun
  | [d1, d2] => { results := [.lit (.bool false)], args := [d1, d2] }
  | _ => none }
def SectionKeepsWrongFalsely : Prop := sectionKeepsRow.holds Try.pinned (OpenSpec.ofChange sectionKeepsWrong)

/-- 'regcertlaw19.WitnessTruncated': WHATEVER THE INPUT: true; the input reads as it did. -/
def witnessTruncatedSpec : ChangeSpec := { name := "witnessTruncated", fn := fun _ => fun
  | [d1, d2, d3, d4, d5] => { results := [.lit (.bool true)], args := [d1, d2, d3, d4, d5] }
  | _ => none }
def witnessTruncatedRow : OpenClaim := { program := "ytgdfhpknhcjipaa", sum := "66e4992703fadac023e7fb11e55d2f9828c598e530907180bdfd37708ced4dd0", func := "regcert/regcertlaw19.WitnessTruncated", spec := "witnessTruncated", unfollowed := true, recurses := true, apart := false }
def WitnessTruncatedSaid : Prop := witnessTruncatedRow.holds Try.pinned (OpenSpec.ofChange witnessTruncatedSpec)

/-- ITS FALSE NEIGHBOUR: 'it returns false'. Refute it at one input. -/
def witnessTruncatedWrong : ChangeSpec := { name := "witnessTruncated", fn := fun _ => fun
  | [d1, d2, d3, d4, d5] => { results := [.lit (.bool false)], args := [d1, d2, d3, d4, d5] }
  | _ => none }
def WitnessTruncatedWrongFalsely : Prop := witnessTruncatedRow.holds Try.pinned (OpenSpec.ofChange witnessTruncatedWrong)

/-- 'regcertlaw19.WitnessMatchesReference': WHATEVER THE INPUT: true; the input reads as it did. -/
def witnessMatchesReferenceSpec : ChangeSpec := { name := "witnessMatchesReference", fn := fun _ => fun
  | [d1, d2, d3, d4, d5] => { results := [.lit (.bool true)], args := [d1, d2, d3, d4, d5] }
  | _ => none }
def witnessMatchesReferenceRow : OpenClaim := { program := "ytgdfhpknhcjipaa", sum := "66e4992703fadac023e7fb11e55d2f9828c598e530907180bdfd37708ced4dd0", func := "regcert/regcertlaw19.WitnessMatchesReference", spec := "witnessMatchesReference", unfollowed := true, recurses := true, apart := false }
def WitnessMatchesReferenceSaid : Prop := witnessMatchesReferenceRow.holds Try.pinned (OpenSpec.ofChange witnessMatchesReferenceSpec)

/-- ITS FALSE NEIGHBOUR: 'it returns false'. Refute it at one input. -/
def witnessMatchesReferenceWrong : ChangeSpec := { name := "witnessMatchesReference", fn := fun _ => fun
  | [d1, d2, d3, d4, d5] => { results := [.lit (.bool false)], args := [d1, d2, d3, d4, d5] }
  | _ => none }
def WitnessMatchesReferenceWrongFalsely : Prop := witnessMatchesReferenceRow.holds Try.pinned (OpenSpec.ofChange witnessMatchesReferenceWrong)

/-- 'regcertlaw19.WitnessRoundTrip': WHATEVER THE INPUT: true; the input reads as it did. -/
def witnessRoundTripSpec : ChangeSpec := { name := "witnessRoundTrip", fn := fun _ => fun
  | [d1, d2, d3, d4, d5] => { results := [.lit (.bool true)], args := [d1, d2, d3, d4, d5] }
  | _ => none }
def witnessRoundTripRow : OpenClaim := { program := "ytgdfhpknhcjipaa", sum := "66e4992703fadac023e7fb11e55d2f9828c598e530907180bdfd37708ced4dd0", func := "regcert/regcertlaw19.WitnessRoundTrip", spec := "witnessRoundTrip", unfollowed := true, recurses := true, apart := false }
def WitnessRoundTripSaid : Prop := witnessRoundTripRow.holds Try.pinned (OpenSpec.ofChange witnessRoundTripSpec)

/-- ITS FALSE NEIGHBOUR: 'it returns false'. Refute it at one input. -/
def witnessRoundTripWrong : ChangeSpec := { name := "witnessRoundTrip", fn := fun _ => fun
  | [d1, d2, d3, d4, d5] => { results := [.lit (.bool false)], args := [d1, d2, d3, d4, d5] }
  | _ => none }
def WitnessRoundTripWrongFalsely : Prop := witnessRoundTripRow.holds Try.pinned (OpenSpec.ofChange witnessRoundTripWrong)

/-- 'regcertlaw19.WitnessCanonical': WHATEVER THE INPUT: true; the input reads as it did. -/
def witnessCanonicalSpec : ChangeSpec := { name := "witnessCanonical", fn := fun _ => fun
  | [d1, d2, d3, d4, d5] => { results := [.lit (.bool true)], args := [d1, d2, d3, d4, d5] }
  | _ => none }
def witnessCanonicalRow : OpenClaim := { program := "ytgdfhpknhcjipaa", sum := "66e4992703fadac023e7fb11e55d2f9828c598e530907180bdfd37708ced4dd0", func := "regcert/regcertlaw19.WitnessCanonical", spec := "witnessCanonical", unfollowed := true, recurses := true, apart := false }
def WitnessCanonicalSaid : Prop := witnessCanonicalRow.holds Try.pinned (OpenSpec.ofChange witnessCanonicalSpec)

/-- ITS FALSE NEIGHBOUR: 'it returns false'. Refute it at one input. -/
def witnessCanonicalWrong : ChangeSpec := { name := "witnessCanonical", fn := fun _ => fun
  | [d1, d2, d3, d4, d5] => { results := [.lit (.bool false)], args := [d1, d2, d3, d4, d5] }
  | _ => none }
def WitnessCanonicalWrongFalsely : Prop := witnessCanonicalRow.holds Try.pinned (OpenSpec.ofChange witnessCanonicalWrong)

/- THE SECOND FORM. 'bulk': how many values and letters a reading holds, each counted each time it is reached (what is shared counts as often as it is met; a slice's spare places count too). A statement '..UptoSaid' is the law's where the arguments, and the package variables that the reading takes, are together of bulk at most 1048576: NARROWER than '..Said'. Prove '..Said' where nothing that the law and all that it calls make is longer than what came in: it says more and counts as full. Else prove '..UptoSaid'. A law counts once. -/
mutual
def uptoBulk {H : Type} : DataW H → Nat
  | .lit (.string bytes) => bytes.length + 1
  | .lit _ => 1
  | .nil => 1
  | .ptr d => uptoBulk d + 1
  | .slice elems spare => uptoBulkAll elems + uptoBulkAll spare + 1
  | .agg parts => uptoBulkAll parts + 1
  | .iface _ d => uptoBulk d + 1
  | .map entries => uptoBulkEntries entries + 1
  | .held _ => 1
def uptoBulkAll {H : Type} : List (DataW H) → Nat
  | [] => 0
  | d :: r => uptoBulk d + uptoBulkAll r
def uptoBulkEntries {H : Type} : List (Lit × DataW H) → Nat
  | [] => 0
  | x :: r => uptoBulkEntry x + uptoBulkEntries r
def uptoBulkEntry {H : Type} : Lit × DataW H → Nat
  | (.string bytes, d) => bytes.length + uptoBulk d + 1
  | (_, d) => uptoBulk d + 1
 end
def uptoSmall : (H : Type) → List (DataW H) → Bool := fun _ ds => decide (uptoBulkAll ds ≤ 1048576)
def OpenSpec.upto (s : _root_.Go.ChangeSpec) : _root_.Go.OpenSpec := { _root_.Go.OpenSpec.ofChange s with cond := some uptoSmall }

/-- 'regcertlaw03.SectionMatchesReference', WHERE WHAT IT READS IS OF BULK AT MOST 1048576: true; the input reads as it did. -/
def sectionMatchesReferenceUptoRow : OpenClaim := { program := "ytgdfhpknhcjipaa", sum := "66e4992703fadac023e7fb11e55d2f9828c598e530907180bdfd37708ced4dd0", func := "regcert/regcertlaw03.SectionMatchesReference", spec := "sectionMatchesReference", unfollowed := true, recurses := true, apart := false, narrowed := true }
def SectionMatchesReferenceUptoSaid : Prop := sectionMatchesReferenceUptoRow.holds Try.pinned (OpenSpec.upto sectionMatchesReferenceSpec)

/-- 'regcertlaw03.SectionBijection', WHERE WHAT IT READS IS OF BULK AT MOST 1048576: true; the input reads as it did. -/
def sectionBijectionUptoRow : OpenClaim := { program := "ytgdfhpknhcjipaa", sum := "66e4992703fadac023e7fb11e55d2f9828c598e530907180bdfd37708ced4dd0", func := "regcert/regcertlaw03.SectionBijection", spec := "sectionBijection", unfollowed := true, recurses := true, apart := false, narrowed := true }
def SectionBijectionUptoSaid : Prop := sectionBijectionUptoRow.holds Try.pinned (OpenSpec.upto sectionBijectionSpec)

/-- 'regcertlaw03.SectionDamage', WHERE WHAT IT READS IS OF BULK AT MOST 1048576: true; the input reads as it did. -/
def sectionDamageUptoRow : OpenClaim := { program := "ytgdfhpknhcjipaa", sum := "66e4992703fadac023e7fb11e55d2f9828c598e530907180bdfd37708ced4dd0", func := "regcert/regcertlaw03.SectionDamage", spec := "sectionDamage", unfollowed := true, recurses := true, apart := false, narrowed := true }
def SectionDamageUptoSaid : Prop := sectionDamageUptoRow.holds Try.pinned (OpenSpec.upto sectionDamageSpec)

/-- 'regcertlaw03.SectionKeeps', WHERE WHAT IT READS IS OF BULK AT MOST 1048576: true; the input reads as it did. -/
def sectionKeepsUptoRow : OpenClaim := { program := "ytgdfhpknhcjipaa", sum := "66e4992703fadac023e7fb11e55d2f9828c598e530907180bdfd37708ced4dd0", func := "regcert/regcertlaw03.SectionKeeps", spec := "sectionKeeps", unfollowed := true, recurses := true, apart := false, narrowed := true }
def SectionKeepsUptoSaid : Prop := sectionKeepsUptoRow.holds Try.pinned (OpenSpec.upto sectionKeepsSpec)

/-- 'regcertlaw19.WitnessTruncated', WHERE WHAT IT READS IS OF BULK AT MOST 1048576: true; the input reads as it did. -/
def witnessTruncatedUptoRow : OpenClaim := { program := "ytgdfhpknhcjipaa", sum := "66e4992703fadac023e7fb11e55d2f9828c598e530907180bdfd37708ced4dd0", func := "regcert/regcertlaw19.WitnessTruncated", spec := "witnessTruncated", unfollowed := true, recurses := true, apart := false, narrowed := true }
def WitnessTruncatedUptoSaid : Prop := witnessTruncatedUptoRow.holds Try.pinned (OpenSpec.upto witnessTruncatedSpec)

/-- 'regcertlaw19.WitnessMatchesReference', WHERE WHAT IT READS IS OF BULK AT MOST 1048576: true; the input reads as it did. -/
def witnessMatchesReferenceUptoRow : OpenClaim := { program := "ytgdfhpknhcjipaa", sum := "66e4992703fadac023e7fb11e55d2f9828c598e530907180bdfd37708ced4dd0", func := "regcert/regcertlaw19.WitnessMatchesReference", spec := "witnessMatchesReference", unfollowed := true, recurses := true, apart := false, narrowed := true }
def WitnessMatchesReferenceUptoSaid : Prop := witnessMatchesReferenceUptoRow.holds Try.pinned (OpenSpec.upto witnessMatchesReferenceSpec)

/-- 'regcertlaw19.WitnessRoundTrip', WHERE WHAT IT READS IS OF BULK AT MOST 1048576: true; the input reads as it did. -/
def witnessRoundTripUptoRow : OpenClaim := { program := "ytgdfhpknhcjipaa", sum := "66e4992703fadac023e7fb11e55d2f9828c598e530907180bdfd37708ced4dd0", func := "regcert/regcertlaw19.WitnessRoundTrip", spec := "witnessRoundTrip", unfollowed := true, recurses := true, apart := false, narrowed := true }
def WitnessRoundTripUptoSaid : Prop := witnessRoundTripUptoRow.holds Try.pinned (OpenSpec.upto witnessRoundTripSpec)

/-- 'regcertlaw19.WitnessCanonical', WHERE WHAT IT READS IS OF BULK AT MOST 1048576: true; the input reads as it did. -/
def witnessCanonicalUptoRow : OpenClaim := { program := "ytgdfhpknhcjipaa", sum := "66e4992703fadac023e7fb11e55d2f9828c598e530907180bdfd37708ced4dd0", func := "regcert/regcertlaw19.WitnessCanonical", spec := "witnessCanonical", unfollowed := true, recurses := true, apart := false, narrowed := true }
def WitnessCanonicalUptoSaid : Prop := witnessCanonicalUptoRow.holds Try.pinned (OpenSpec.upto witnessCanonicalSpec)

end Rows
end Go.Proofs.Ytgdfhpknhcjipaa
