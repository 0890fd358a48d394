/-
  No cell of these rows narrows 'for every input' (looked for: loops, veiled, ifaces, maps, wideKeys, modest, calm, conditions, laid).
  DERIVED. THE GIVEN ROWS OF THIS SEAT. 4 by the template 'for every input the law returns true; each argument reads behind the call as it read before'; 0 by the template 'total and deterministic' (their statements: YtglelcgllodhoaaTotals.lean).
  GIVEN WITH THE SEED: the statements are not yours to turn. If you find one false, say at which input.
  Laid BY PROGRAM, IN A SANDBOX (cutbox-rows.mjs): the forced cells as the released guide's own fill.sh prints them over the translation 365d5928298c92d2… (all of the seat's roots in one cut). By AI agents, Wed Nov 11 2026. No macro, syntax, notation, axiom, sorry.
-/
import Derived.Test.YtglelcgllodhoaaChecked
import GoSem.Claim
import GoSem.ClaimJoined
import GoSem.ClaimMapViews
import Derived.JoinedTies
import Derived.KernelRfl
namespace Go.Proofs.Ytglelcgllodhoaa
/- THE CELL 'sum', in the pinned program and in every row, IS THE sha256 OF THE DUMP (.gsa) THAT YtglelcgllodhoaaProg.lean LOADS. Nothing in Lean hashes anything: it is a label: what it is worth is what the hold of that sum in a sandbox is worth. -/
noncomputable def Try.pinned : Pinned := { name := "ytglelcgllodhoaa", sum := "365d5928298c92d225cd1e31abdfe729e2a847d37afe6dd49d9c3665452bc6c7", checked := Try.checked }
namespace Rows
def none {H : Type} : Left H := { results := [], args := [] }

/-- 'regcertlaw15.EdgeValid': WHATEVER THE INPUT: true; the input reads as it did. -/
def edgeValidSpec : ChangeSpec := { name := "edgeValid", fn := fun _ => fun
  | [d1, d2, d3, d4, d5, d6] => { results := [.lit (.bool true)], args := [d1, d2, d3, d4, d5, d6] }
  | _ => none }
def edgeValidRow : OpenClaim := { program := "ytglelcgllodhoaa", sum := "365d5928298c92d225cd1e31abdfe729e2a847d37afe6dd49d9c3665452bc6c7", func := "regcert/regcertlaw15.EdgeValid", spec := "edgeValid", apart := false }
def EdgeValidSaid : Prop := edgeValidRow.holds Try.pinned (OpenSpec.ofChange edgeValidSpec)

/-- ITS FALSE NEIGHBOUR: 'it returns false'. Refute it at one input. -/
def edgeValidWrong : ChangeSpec := { name := "edgeValid", fn := fun _ => fun
  | [d1, d2, d3, d4, d5, d6] => { results := [.lit (.bool false)], args := [d1, d2, d3, d4, d5, d6] }
  | _ => none }
def EdgeValidWrongFalsely : Prop := edgeValidRow.holds Try.pinned (OpenSpec.ofChange edgeValidWrong)

/-- 'regcertlaw15.EdgeMatchesReference': WHATEVER THE INPUT: true; the input reads as it did. -/
def edgeMatchesReferenceSpec : ChangeSpec := { name := "edgeMatchesReference", fn := fun _ => fun
  | [d1, d2, d3, d4, d5, d6, d7] => { results := [.lit (.bool true)], args := [d1, d2, d3, d4, d5, d6, d7] }
  | _ => none }
def edgeMatchesReferenceRow : OpenClaim := { program := "ytglelcgllodhoaa", sum := "365d5928298c92d225cd1e31abdfe729e2a847d37afe6dd49d9c3665452bc6c7", func := "regcert/regcertlaw15.EdgeMatchesReference", spec := "edgeMatchesReference", unfollowed := true, recurses := true, apart := false }
def EdgeMatchesReferenceSaid : Prop := edgeMatchesReferenceRow.holds Try.pinned (OpenSpec.ofChange edgeMatchesReferenceSpec)

/-- ITS FALSE NEIGHBOUR: 'it returns false'. Refute it at one input. -/
def edgeMatchesReferenceWrong : ChangeSpec := { name := "edgeMatchesReference", fn := fun _ => fun
  | [d1, d2, d3, d4, d5, d6, d7] => { results := [.lit (.bool false)], args := [d1, d2, d3, d4, d5, d6, d7] }
  | _ => none }
def EdgeMatchesReferenceWrongFalsely : Prop := edgeMatchesReferenceRow.holds Try.pinned (OpenSpec.ofChange edgeMatchesReferenceWrong)

/-- 'regcertlaw15.EdgeEntry': WHATEVER THE INPUT: true; the input reads as it did. -/
def edgeEntrySpec : ChangeSpec := { name := "edgeEntry", fn := fun _ => fun
  | [d1, d2, d3, d4, d5] => { results := [.lit (.bool true)], args := [d1, d2, d3, d4, d5] }
  | _ => none }
def edgeEntryRow : OpenClaim := { program := "ytglelcgllodhoaa", sum := "365d5928298c92d225cd1e31abdfe729e2a847d37afe6dd49d9c3665452bc6c7", func := "regcert/regcertlaw15.EdgeEntry", spec := "edgeEntry", unfollowed := true, recurses := true, apart := false }
def EdgeEntrySaid : Prop := edgeEntryRow.holds Try.pinned (OpenSpec.ofChange edgeEntrySpec)

/-- ITS FALSE NEIGHBOUR: 'it returns false'. Refute it at one input. -/
def edgeEntryWrong : ChangeSpec := { name := "edgeEntry", fn := fun _ => fun
  | [d1, d2, d3, d4, d5] => { results := [.lit (.bool false)], args := [d1, d2, d3, d4, d5] }
  | _ => none }
def EdgeEntryWrongFalsely : Prop := edgeEntryRow.holds Try.pinned (OpenSpec.ofChange edgeEntryWrong)

/-- 'regcertlaw07.SourceSpoils': WHATEVER THE INPUT: true; the input reads as it did. -/
def sourceSpoilsSpec : ChangeSpec := { name := "sourceSpoils", fn := fun _ => fun
  | [d1, d2, d3] => { results := [.lit (.bool true)], args := [d1, d2, d3] }
  | _ => none }
def sourceSpoilsRow : OpenClaim := { program := "ytglelcgllodhoaa", sum := "365d5928298c92d225cd1e31abdfe729e2a847d37afe6dd49d9c3665452bc6c7", func := "regcert/regcertlaw07.SourceSpoils", spec := "sourceSpoils", apart := false }
def SourceSpoilsSaid : Prop := sourceSpoilsRow.holds Try.pinned (OpenSpec.ofChange sourceSpoilsSpec)

/-- ITS FALSE NEIGHBOUR: 'it returns false'. Refute it at one input. -/
def sourceSpoilsWrong : ChangeSpec := { name := "sourceSpoils", fn := fun _ => fun
  | [d1, d2, d3] => { results := [.lit (.bool false)], args := [d1, d2, d3] }
  | _ => none }
def SourceSpoilsWrongFalsely : Prop := sourceSpoilsRow.holds Try.pinned (OpenSpec.ofChange sourceSpoilsWrong)

/- THE SECOND FORM. 'bulk': how many values and letters a reading holds, each counted each time it is reached (what is shared counts as often as it is met; a slice's spare places count too). A statement '..UptoSaid' is the law's where the arguments, and the package variables that the reading takes, are together of bulk at most 1048576: NARROWER than '..Said'. Prove '..Said' where nothing that the law and all that it calls make is longer than what came in: it says more and counts as full. Else prove '..UptoSaid'. A law counts once. -/
mutual
def uptoBulk {H : Type} : DataW H → Nat
  | .lit (.string bytes) => bytes.length + 1
  | .lit _ => 1
  | .nil => 1
  | .ptr d => uptoBulk d + 1
  | .slice elems spare => uptoBulkAll elems + uptoBulkAll spare + 1
  | .agg parts => uptoBulkAll parts + 1
  | .iface _ d => uptoBulk d + 1
  | .map entries => uptoBulkEntries entries + 1
  | .held _ => 1
def uptoBulkAll {H : Type} : List (DataW H) → Nat
  | [] => 0
  | d :: r => uptoBulk d + uptoBulkAll r
def uptoBulkEntries {H : Type} : List (Lit × DataW H) → Nat
  | [] => 0
  | x :: r => uptoBulkEntry x + uptoBulkEntries r
def uptoBulkEntry {H : Type} : Lit × DataW H → Nat
  | (.string bytes, d) => bytes.length + uptoBulk d + 1
  | (_, d) => uptoBulk d + 1
 end
def uptoSmall : (H : Type) → List (DataW H) → Bool := fun _ ds => decide (uptoBulkAll ds ≤ 1048576)
def OpenSpec.upto (s : _root_.Go.ChangeSpec) : _root_.Go.OpenSpec := { _root_.Go.OpenSpec.ofChange s with cond := some uptoSmall }

/-- 'regcertlaw15.EdgeValid', WHERE WHAT IT READS IS OF BULK AT MOST 1048576: true; the input reads as it did. -/
def edgeValidUptoRow : OpenClaim := { program := "ytglelcgllodhoaa", sum := "365d5928298c92d225cd1e31abdfe729e2a847d37afe6dd49d9c3665452bc6c7", func := "regcert/regcertlaw15.EdgeValid", spec := "edgeValid", apart := false, narrowed := true }
def EdgeValidUptoSaid : Prop := edgeValidUptoRow.holds Try.pinned (OpenSpec.upto edgeValidSpec)

/-- 'regcertlaw15.EdgeMatchesReference', WHERE WHAT IT READS IS OF BULK AT MOST 1048576: true; the input reads as it did. -/
def edgeMatchesReferenceUptoRow : OpenClaim := { program := "ytglelcgllodhoaa", sum := "365d5928298c92d225cd1e31abdfe729e2a847d37afe6dd49d9c3665452bc6c7", func := "regcert/regcertlaw15.EdgeMatchesReference", spec := "edgeMatchesReference", unfollowed := true, recurses := true, apart := false, narrowed := true }
def EdgeMatchesReferenceUptoSaid : Prop := edgeMatchesReferenceUptoRow.holds Try.pinned (OpenSpec.upto edgeMatchesReferenceSpec)

/-- 'regcertlaw15.EdgeEntry', WHERE WHAT IT READS IS OF BULK AT MOST 1048576: true; the input reads as it did. -/
def edgeEntryUptoRow : OpenClaim := { program := "ytglelcgllodhoaa", sum := "365d5928298c92d225cd1e31abdfe729e2a847d37afe6dd49d9c3665452bc6c7", func := "regcert/regcertlaw15.EdgeEntry", spec := "edgeEntry", unfollowed := true, recurses := true, apart := false, narrowed := true }
def EdgeEntryUptoSaid : Prop := edgeEntryUptoRow.holds Try.pinned (OpenSpec.upto edgeEntrySpec)

/-- 'regcertlaw07.SourceSpoils', WHERE WHAT IT READS IS OF BULK AT MOST 1048576: true; the input reads as it did. -/
def sourceSpoilsUptoRow : OpenClaim := { program := "ytglelcgllodhoaa", sum := "365d5928298c92d225cd1e31abdfe729e2a847d37afe6dd49d9c3665452bc6c7", func := "regcert/regcertlaw07.SourceSpoils", spec := "sourceSpoils", apart := false, narrowed := true }
def SourceSpoilsUptoSaid : Prop := sourceSpoilsUptoRow.holds Try.pinned (OpenSpec.upto sourceSpoilsSpec)

end Rows
end Go.Proofs.Ytglelcgllodhoaa
