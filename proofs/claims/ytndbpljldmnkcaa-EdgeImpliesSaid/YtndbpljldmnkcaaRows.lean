/-
  No cell of these rows narrows 'for every input' (looked for: loops, veiled, ifaces, maps, wideKeys, modest, calm, conditions, laid).
  DERIVED. THE GIVEN ROWS OF THIS SEAT. 9 by the template 'for every input the law returns true; each argument reads behind the call as it read before'; 0 by the template 'total and deterministic' (their statements: YtndbpljldmnkcaaTotals.lean).
  GIVEN WITH THE SEED: the statements are not yours to turn. If you find one false, say at which input.
  Laid BY PROGRAM, IN A SANDBOX (cutbox-rows.mjs): the forced cells as the released guide's own fill.sh prints them over the translation 915ee53698c60ec6… (all of the seat's roots in one cut). By AI agents, Wed Nov 11 2026. No macro, syntax, notation, axiom, sorry.
-/
import Derived.Test.YtndbpljldmnkcaaChecked
import GoSem.Claim
import GoSem.ClaimJoined
import GoSem.ClaimMapViews
import Derived.JoinedTies
import Derived.KernelRfl
namespace Go.Proofs.Ytndbpljldmnkcaa
/- THE CELL 'sum', in the pinned program and in every row, IS THE sha256 OF THE DUMP (.gsa) THAT YtndbpljldmnkcaaProg.lean LOADS. Nothing in Lean hashes anything: it is a label: what it is worth is what the hold of that sum in a sandbox is worth. -/
noncomputable def Try.pinned : Pinned := { name := "ytndbpljldmnkcaa", sum := "915ee53698c60ec6341537083f4651b24e49939e691b2238f78876c1d3c2cded", checked := Try.checked }
namespace Rows
def none {H : Type} : Left H := { results := [], args := [] }

/-- 'regcertlaw15.EdgeInitial': WHATEVER THE INPUT: true; the input reads as it did. -/
def edgeInitialSpec : ChangeSpec := { name := "edgeInitial", fn := fun _ => fun
  | [d1, d2, d3] => { results := [.lit (.bool true)], args := [d1, d2, d3] }
  | _ => none }
def edgeInitialRow : OpenClaim := { program := "ytndbpljldmnkcaa", sum := "915ee53698c60ec6341537083f4651b24e49939e691b2238f78876c1d3c2cded", func := "regcert/regcertlaw15.EdgeInitial", spec := "edgeInitial", apart := false }
def EdgeInitialSaid : Prop := edgeInitialRow.holds Try.pinned (OpenSpec.ofChange edgeInitialSpec)

/-- ITS FALSE NEIGHBOUR: 'it returns false'. Refute it at one input. -/
def edgeInitialWrong : ChangeSpec := { name := "edgeInitial", fn := fun _ => fun
  | [d1, d2, d3] => { results := [.lit (.bool false)], args := [d1, d2, d3] }
  | _ => none }
def EdgeInitialWrongFalsely : Prop := edgeInitialRow.holds Try.pinned (OpenSpec.ofChange edgeInitialWrong)

/-- 'regcertlaw15.EdgeImplies': WHATEVER THE INPUT: true; the input reads as it did. -/
def edgeImpliesSpec : ChangeSpec := { name := "edgeImplies", fn := fun _ => fun
  | [d1, d2, d3] => { results := [.lit (.bool true)], args := [d1, d2, d3] }
  | _ => none }
def edgeImpliesRow : OpenClaim := { program := "ytndbpljldmnkcaa", sum := "915ee53698c60ec6341537083f4651b24e49939e691b2238f78876c1d3c2cded", func := "regcert/regcertlaw15.EdgeImplies", spec := "edgeImplies", apart := false }
def EdgeImpliesSaid : Prop := edgeImpliesRow.holds Try.pinned (OpenSpec.ofChange edgeImpliesSpec)

/-- ITS FALSE NEIGHBOUR: 'it returns false'. Refute it at one input. -/
def edgeImpliesWrong : ChangeSpec := { name := "edgeImplies", fn := fun _ => fun
  | [d1, d2, d3] => { results := [.lit (.bool false)], args := [d1, d2, d3] }
  | _ => none }
def EdgeImpliesWrongFalsely : Prop := edgeImpliesRow.holds Try.pinned (OpenSpec.ofChange edgeImpliesWrong)

/-- 'regcertlaw15.EdgeValid': WHATEVER THE INPUT: true; the input reads as it did. -/
def edgeValidSpec : ChangeSpec := { name := "edgeValid", fn := fun _ => fun
  | [d1, d2, d3, d4, d5, d6] => { results := [.lit (.bool true)], args := [d1, d2, d3, d4, d5, d6] }
  | _ => none }
def edgeValidRow : OpenClaim := { program := "ytndbpljldmnkcaa", sum := "915ee53698c60ec6341537083f4651b24e49939e691b2238f78876c1d3c2cded", func := "regcert/regcertlaw15.EdgeValid", spec := "edgeValid", apart := false }
def EdgeValidSaid : Prop := edgeValidRow.holds Try.pinned (OpenSpec.ofChange edgeValidSpec)

/-- ITS FALSE NEIGHBOUR: 'it returns false'. Refute it at one input. -/
def edgeValidWrong : ChangeSpec := { name := "edgeValid", fn := fun _ => fun
  | [d1, d2, d3, d4, d5, d6] => { results := [.lit (.bool false)], args := [d1, d2, d3, d4, d5, d6] }
  | _ => none }
def EdgeValidWrongFalsely : Prop := edgeValidRow.holds Try.pinned (OpenSpec.ofChange edgeValidWrong)

/-- 'regcertlaw15.EdgeMatchesReference': WHATEVER THE INPUT: true; the input reads as it did. -/
def edgeMatchesReferenceSpec : ChangeSpec := { name := "edgeMatchesReference", fn := fun _ => fun
  | [d1, d2, d3, d4, d5, d6, d7] => { results := [.lit (.bool true)], args := [d1, d2, d3, d4, d5, d6, d7] }
  | _ => none }
def edgeMatchesReferenceRow : OpenClaim := { program := "ytndbpljldmnkcaa", sum := "915ee53698c60ec6341537083f4651b24e49939e691b2238f78876c1d3c2cded", func := "regcert/regcertlaw15.EdgeMatchesReference", spec := "edgeMatchesReference", unfollowed := true, recurses := true, apart := false }
def EdgeMatchesReferenceSaid : Prop := edgeMatchesReferenceRow.holds Try.pinned (OpenSpec.ofChange edgeMatchesReferenceSpec)

/-- ITS FALSE NEIGHBOUR: 'it returns false'. Refute it at one input. -/
def edgeMatchesReferenceWrong : ChangeSpec := { name := "edgeMatchesReference", fn := fun _ => fun
  | [d1, d2, d3, d4, d5, d6, d7] => { results := [.lit (.bool false)], args := [d1, d2, d3, d4, d5, d6, d7] }
  | _ => none }
def EdgeMatchesReferenceWrongFalsely : Prop := edgeMatchesReferenceRow.holds Try.pinned (OpenSpec.ofChange edgeMatchesReferenceWrong)

/-- 'regcertlaw15.EdgeEntry': WHATEVER THE INPUT: true; the input reads as it did. -/
def edgeEntrySpec : ChangeSpec := { name := "edgeEntry", fn := fun _ => fun
  | [d1, d2, d3, d4, d5] => { results := [.lit (.bool true)], args := [d1, d2, d3, d4, d5] }
  | _ => none }
def edgeEntryRow : OpenClaim := { program := "ytndbpljldmnkcaa", sum := "915ee53698c60ec6341537083f4651b24e49939e691b2238f78876c1d3c2cded", func := "regcert/regcertlaw15.EdgeEntry", spec := "edgeEntry", unfollowed := true, recurses := true, apart := false }
def EdgeEntrySaid : Prop := edgeEntryRow.holds Try.pinned (OpenSpec.ofChange edgeEntrySpec)

/-- ITS FALSE NEIGHBOUR: 'it returns false'. Refute it at one input. -/
def edgeEntryWrong : ChangeSpec := { name := "edgeEntry", fn := fun _ => fun
  | [d1, d2, d3, d4, d5] => { results := [.lit (.bool false)], args := [d1, d2, d3, d4, d5] }
  | _ => none }
def EdgeEntryWrongFalsely : Prop := edgeEntryRow.holds Try.pinned (OpenSpec.ofChange edgeEntryWrong)

/-- 'regcertlaw07.SourceMatchesReference': WHATEVER THE INPUT: true; the input reads as it did. -/
def sourceMatchesReferenceSpec : ChangeSpec := { name := "sourceMatchesReference", fn := fun _ => fun
  | [d1, d2, d3, d4, d5] => { results := [.lit (.bool true)], args := [d1, d2, d3, d4, d5] }
  | _ => none }
def sourceMatchesReferenceRow : OpenClaim := { program := "ytndbpljldmnkcaa", sum := "915ee53698c60ec6341537083f4651b24e49939e691b2238f78876c1d3c2cded", func := "regcert/regcertlaw07.SourceMatchesReference", spec := "sourceMatchesReference", apart := false }
def SourceMatchesReferenceSaid : Prop := sourceMatchesReferenceRow.holds Try.pinned (OpenSpec.ofChange sourceMatchesReferenceSpec)

/-- ITS FALSE NEIGHBOUR: 'it returns false'. Refute it at one input. -/
def sourceMatchesReferenceWrong : ChangeSpec := { name := "sourceMatchesReference", fn := fun _ => fun
  | [d1, d2, d3, d4, d5] => { results := [.lit (.bool false)], args := [d1, d2, d3, d4, d5] }
  | _ => none }
def SourceMatchesReferenceWrongFalsely : Prop := sourceMatchesReferenceRow.holds Try.pinned (OpenSpec.ofChange sourceMatchesReferenceWrong)

/-- 'regcertlaw07.SourceCheck': WHATEVER THE INPUT: true; the input reads as it did. -/
def sourceCheckSpec : ChangeSpec := { name := "sourceCheck", fn := fun _ => fun
  | [d] => { results := [.lit (.bool true)], args := [d] }
  | _ => none }
def sourceCheckRow : OpenClaim := { program := "ytndbpljldmnkcaa", sum := "915ee53698c60ec6341537083f4651b24e49939e691b2238f78876c1d3c2cded", func := "regcert/regcertlaw07.SourceCheck", spec := "sourceCheck", apart := false }
def SourceCheckSaid : Prop := sourceCheckRow.holds Try.pinned (OpenSpec.ofChange sourceCheckSpec)

/-- ITS FALSE NEIGHBOUR: 'it returns false'. Refute it at one input. -/
def sourceCheckWrong : ChangeSpec := { name := "sourceCheck", fn := fun _ => fun
  | [d] => { results := [.lit (.bool false)], args := [d] }
  | _ => none }
def SourceCheckWrongFalsely : Prop := sourceCheckRow.holds Try.pinned (OpenSpec.ofChange sourceCheckWrong)

/-- 'regcertlaw07.SourceGrows': WHATEVER THE INPUT: true; the input reads as it did. -/
def sourceGrowsSpec : ChangeSpec := { name := "sourceGrows", fn := fun _ => fun
  | [d1, d2, d3, d4, d5] => { results := [.lit (.bool true)], args := [d1, d2, d3, d4, d5] }
  | _ => none }
def sourceGrowsRow : OpenClaim := { program := "ytndbpljldmnkcaa", sum := "915ee53698c60ec6341537083f4651b24e49939e691b2238f78876c1d3c2cded", func := "regcert/regcertlaw07.SourceGrows", spec := "sourceGrows", apart := false }
def SourceGrowsSaid : Prop := sourceGrowsRow.holds Try.pinned (OpenSpec.ofChange sourceGrowsSpec)

/-- ITS FALSE NEIGHBOUR: 'it returns false'. Refute it at one input. -/
def sourceGrowsWrong : ChangeSpec := { name := "sourceGrows", fn := fun _ => fun
  | [d1, d2, d3, d4, d5] => { results := [.lit (.bool false)], args := [d1, d2, d3, d4, d5] }
  | _ => none }
def SourceGrowsWrongFalsely : Prop := sourceGrowsRow.holds Try.pinned (OpenSpec.ofChange sourceGrowsWrong)

/-- 'regcertlaw07.SourceSpoils': WHATEVER THE INPUT: true; the input reads as it did. -/
def sourceSpoilsSpec : ChangeSpec := { name := "sourceSpoils", fn := fun _ => fun
  | [d1, d2, d3] => { results := [.lit (.bool true)], args := [d1, d2, d3] }
  | _ => none }
def sourceSpoilsRow : OpenClaim := { program := "ytndbpljldmnkcaa", sum := "915ee53698c60ec6341537083f4651b24e49939e691b2238f78876c1d3c2cded", func := "regcert/regcertlaw07.SourceSpoils", spec := "sourceSpoils", apart := false }
def SourceSpoilsSaid : Prop := sourceSpoilsRow.holds Try.pinned (OpenSpec.ofChange sourceSpoilsSpec)

/-- ITS FALSE NEIGHBOUR: 'it returns false'. Refute it at one input. -/
def sourceSpoilsWrong : ChangeSpec := { name := "sourceSpoils", fn := fun _ => fun
  | [d1, d2, d3] => { results := [.lit (.bool false)], args := [d1, d2, d3] }
  | _ => none }
def SourceSpoilsWrongFalsely : Prop := sourceSpoilsRow.holds Try.pinned (OpenSpec.ofChange sourceSpoilsWrong)

/- THE SECOND FORM. 'bulk': how many values and letters a reading holds, each counted each time it is reached (what is shared counts as often as it is met; a slice's spare places count too). A statement '..UptoSaid' is the law's where the arguments, and the package variables that the reading takes, are together of bulk at most 1048576: NARROWER than '..Said'. Prove '..Said' where nothing that the law and all that it calls make is longer than what came in: it says more and counts as full. Else prove '..UptoSaid'. A law counts once. -/
mutual
def uptoBulk {H : Type} : DataW H → Nat
  | .lit (.string bytes) => bytes.length + 1
  | .lit _ => 1
  | .nil => 1
  | .ptr d => uptoBulk d + 1
  | .slice elems spare => uptoBulkAll elems + uptoBulkAll spare + 1
  | .agg parts => uptoBulkAll parts + 1
  | .iface _ d => uptoBulk d + 1
  | .map entries => uptoBulkEntries entries + 1
  | .held _ => 1
def uptoBulkAll {H : Type} : List (DataW H) → Nat
  | [] => 0
  | d :: r => uptoBulk d + uptoBulkAll r
def uptoBulkEntries {H : Type} : List (Lit × DataW H) → Nat
  | [] => 0
  | x :: r => uptoBulkEntry x + uptoBulkEntries r
def uptoBulkEntry {H : Type} : Lit × DataW H → Nat
  | (.string bytes, d) => bytes.length + uptoBulk d + 1
  | (_, d) => uptoBulk d + 1
 end
def uptoSmall : (H : Type) → List (DataW H) → Bool := fun _ ds => decide (uptoBulkAll ds ≤ 1048576)
def OpenSpec.upto (s : _root_.Go.ChangeSpec) : _root_.Go.OpenSpec := { _root_.Go.OpenSpec.ofChange s with cond := some uptoSmall }

/-- 'regcertlaw15.EdgeInitial', WHERE WHAT IT READS IS OF BULK AT MOST 1048576: true; the input reads as it did. -/
def edgeInitialUptoRow : OpenClaim := { program := "ytndbpljldmnkcaa", sum := "915ee53698c60ec6341537083f4651b24e49939e691b2238f78876c1d3c2cded", func := "regcert/regcertlaw15.EdgeInitial", spec := "edgeInitial", apart := false, narrowed := true }
def EdgeInitialUptoSaid : Prop := edgeInitialUptoRow.holds Try.pinned (OpenSpec.upto edgeInitialSpec)

/-- 'regcertlaw15.EdgeImplies', WHERE WHAT IT READS IS OF BULK AT MOST 1048576: true; the input reads as it did. -/
def edgeImpliesUptoRow : OpenClaim := { program := "ytndbpljldmnkcaa", sum := "915ee53698c60ec6341537083f4651b24e49939e691b2238f78876c1d3c2cded", func := "regcert/regcertlaw15.EdgeImplies", spec := "edgeImplies", apart := false, narrowed := true }
def EdgeImpliesUptoSaid : Prop := edgeImpliesUptoRow.holds Try.pinned (OpenSpec.upto edgeImpliesSpec)

/-- 'regcertlaw15.EdgeValid', WHERE WHAT IT READS IS OF BULK AT MOST 1048576: true; the input reads as it did. -/
def edgeValidUptoRow : OpenClaim := { program := "ytndbpljldmnkcaa", sum := "915ee53698c60ec6341537083f4651b24e49939e691b2238f78876c1d3c2cded", func := "regcert/regcertlaw15.EdgeValid", spec := "edgeValid", apart := false, narrowed := true }
def EdgeValidUptoSaid : Prop := edgeValidUptoRow.holds Try.pinned (OpenSpec.upto edgeValidSpec)

/-- 'regcertlaw15.EdgeMatchesReference', WHERE WHAT IT READS IS OF BULK AT MOST 1048576: true; the input reads as it did. -/
def edgeMatchesReferenceUptoRow : OpenClaim := { program := "ytndbpljldmnkcaa", sum := "915ee53698c60ec6341537083f4651b24e49939e691b2238f78876c1d3c2cded", func := "regcert/regcertlaw15.EdgeMatchesReference", spec := "edgeMatchesReference", unfollowed := true, recurses := true, apart := false, narrowed := true }
def EdgeMatchesReferenceUptoSaid : Prop := edgeMatchesReferenceUptoRow.holds Try.pinned (OpenSpec.upto edgeMatchesReferenceSpec)

/-- 'regcertlaw15.EdgeEntry', WHERE WHAT IT READS IS OF BULK AT MOST 1048576: true; the input reads as it did. -/
def edgeEntryUptoRow : OpenClaim := { program := "ytndbpljldmnkcaa", sum := "915ee53698c60ec6341537083f4651b24e49939e691b2238f78876c1d3c2cded", func := "regcert/regcertlaw15.EdgeEntry", spec := "edgeEntry", unfollowed := true, recurses := true, apart := false, narrowed := true }
def EdgeEntryUptoSaid : Prop := edgeEntryUptoRow.holds Try.pinned (OpenSpec.upto edgeEntrySpec)

/-- 'regcertlaw07.SourceMatchesReference', WHERE WHAT IT READS IS OF BULK AT MOST 1048576: true; the input reads as it did. -/
def sourceMatchesReferenceUptoRow : OpenClaim := { program := "ytndbpljldmnkcaa", sum := "915ee53698c60ec6341537083f4651b24e49939e691b2238f78876c1d3c2cded", func := "regcert/regcertlaw07.SourceMatchesReference", spec := "sourceMatchesReference", apart := false, narrowed := true }
def SourceMatchesReferenceUptoSaid : Prop := sourceMatchesReferenceUptoRow.holds Try.pinned (OpenSpec.upto sourceMatchesReferenceSpec)

/-- 'regcertlaw07.SourceCheck', WHERE WHAT IT READS IS OF BULK AT MOST 1048576: true; the input reads as it did. -/
def sourceCheckUptoRow : OpenClaim := { program := "ytndbpljldmnkcaa", sum := "915ee53698c60ec6341537083f4651b24e49939e691b2238f78876c1d3c2cded", func := "regcert/regcertlaw07.SourceCheck", spec := "sourceCheck", apart := false, narrowed := true }
def SourceCheckUptoSaid : Prop := sourceCheckUptoRow.holds Try.pinned (OpenSpec.upto sourceCheckSpec)

/-- 'regcertlaw07.SourceGrows', WHERE WHAT IT READS IS OF BULK AT MOST 1048576: true; the input reads as it did. -/
def sourceGrowsUptoRow : OpenClaim := { program := "ytndbpljldmnkcaa", sum := "915ee53698c60ec6341537083f4651b24e49939e691b2238f78876c1d3c2cded", func := "regcert/regcertlaw07.SourceGrows", spec := "sourceGrows", apart := false, narrowed := true }
def SourceGrowsUptoSaid : Prop := sourceGrowsUptoRow.holds Try.pinned (OpenSpec.upto sourceGrowsSpec)

/-- 'regcertlaw07.SourceSpoils', WHERE WHAT IT READS IS OF BULK AT MOST 1048576: true; the input reads as it did. -/
def sourceSpoilsUptoRow : OpenClaim := { program := "ytndbpljldmnkcaa", sum := "915ee53698c60ec6341537083f4651b24e49939e691b2238f78876c1d3c2cded", func := "regcert/regcertlaw07.SourceSpoils", spec := "sourceSpoils", apart := false, narrowed := true }
def SourceSpoilsUptoSaid : Prop := sourceSpoilsUptoRow.holds Try.pinned (OpenSpec.upto sourceSpoilsSpec)

end Rows
end Go.Proofs.Ytndbpljldmnkcaa
