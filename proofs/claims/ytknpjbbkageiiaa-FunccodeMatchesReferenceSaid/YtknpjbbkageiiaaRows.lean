/-
  No cell of these rows narrows 'for every input' (looked for: loops, veiled, ifaces, maps, wideKeys, modest, calm, conditions, laid).
  DERIVED. THE GIVEN ROWS OF THIS SEAT. 9 by the template 'for every input the law returns true; each argument reads behind the call as it read before'; 0 by the template 'total and deterministic' (their statements: YtknpjbbkageiiaaTotals.lean).
  GIVEN WITH THE SEED: the statements are not yours to turn. If you find one false, say at which input.
  Laid BY PROGRAM, IN A SANDBOX (cutbox-rows.mjs): the forced cells as the released guide's own fill.sh prints them over the translation 6e2f0ae2d91c3d7b… (all of the seat's roots in one cut). By AI agents, Wed Nov 11 2026. No macro, syntax, notation, axiom, sorry.
-/
import Derived.Test.YtknpjbbkageiiaaChecked
import GoSem.Claim
import GoSem.ClaimJoined
import GoSem.ClaimMapViews
import Derived.JoinedTies
import Derived.KernelRfl
namespace Go.Proofs.Ytknpjbbkageiiaa
/- THE CELL 'sum', in the pinned program and in every row, IS THE sha256 OF THE DUMP (.gsa) THAT YtknpjbbkageiiaaProg.lean LOADS. Nothing in Lean hashes anything: it is a label: what it is worth is what the hold of that sum in a sandbox is worth. -/
noncomputable def Try.pinned : Pinned := { name := "ytknpjbbkageiiaa", sum := "6e2f0ae2d91c3d7ba96ca1d994efcacaeebb97d9a2b8fb430ac624781eae24e6", checked := Try.checked }
namespace Rows
def none {H : Type} : Left H := { results := [], args := [] }

/-- 'regcertlaw17.InstrcodeMatchesReference': WHATEVER THE INPUT: true; the input reads as it did. -/
def instrcodeMatchesReferenceSpec : ChangeSpec := { name := "instrcodeMatchesReference", fn := fun _ => fun
  | [d1, d2, d3, d4] => { results := [.lit (.bool true)], args := [d1, d2, d3, d4] }
  | _ => none }
def instrcodeMatchesReferenceRow : OpenClaim := { program := "ytknpjbbkageiiaa", sum := "6e2f0ae2d91c3d7ba96ca1d994efcacaeebb97d9a2b8fb430ac624781eae24e6", func := "regcert/regcertlaw17.InstrcodeMatchesReference", spec := "instrcodeMatchesReference", unfollowed := true, recurses := true, apart := false }
def InstrcodeMatchesReferenceSaid : Prop := instrcodeMatchesReferenceRow.holds Try.pinned (OpenSpec.ofChange instrcodeMatchesReferenceSpec)

/-- ITS FALSE NEIGHBOUR: 'it returns false'. Refute it at one input. -/
def instrcodeMatchesReferenceWrong : ChangeSpec := { name := "instrcodeMatchesReference", fn := fun _ => fun
  | [d1, d2, d3, d4] => { results := [.lit (.bool false)], args := [d1, d2, d3, d4] }
  | _ => none }
def InstrcodeMatchesReferenceWrongFalsely : Prop := instrcodeMatchesReferenceRow.holds Try.pinned (OpenSpec.ofChange instrcodeMatchesReferenceWrong)

/-- 'regcertlaw17.InstrcodeRoundTrip': WHATEVER THE INPUT: true; the input reads as it did. -/
def instrcodeRoundTripSpec : ChangeSpec := { name := "instrcodeRoundTrip", fn := fun _ => fun
  | [d1, d2, d3, d4, d5, d6, d7] => { results := [.lit (.bool true)], args := [d1, d2, d3, d4, d5, d6, d7] }
  | _ => none }
def instrcodeRoundTripRow : OpenClaim := { program := "ytknpjbbkageiiaa", sum := "6e2f0ae2d91c3d7ba96ca1d994efcacaeebb97d9a2b8fb430ac624781eae24e6", func := "regcert/regcertlaw17.InstrcodeRoundTrip", spec := "instrcodeRoundTrip", unfollowed := true, recurses := true, apart := false }
def InstrcodeRoundTripSaid : Prop := instrcodeRoundTripRow.holds Try.pinned (OpenSpec.ofChange instrcodeRoundTripSpec)

/-- ITS FALSE NEIGHBOUR: 'it returns false'. Refute it at one input. -/
def instrcodeRoundTripWrong : ChangeSpec := { name := "instrcodeRoundTrip", fn := fun _ => fun
  | [d1, d2, d3, d4, d5, d6, d7] => { results := [.lit (.bool false)], args := [d1, d2, d3, d4, d5, d6, d7] }
  | _ => none }
def InstrcodeRoundTripWrongFalsely : Prop := instrcodeRoundTripRow.holds Try.pinned (OpenSpec.ofChange instrcodeRoundTripWrong)

/-- 'regcertlaw17.InstrcodeTruncated': WHATEVER THE INPUT: true; the input reads as it did. -/
def instrcodeTruncatedSpec : ChangeSpec := { name := "instrcodeTruncated", fn := fun _ => fun
  | [d1, d2, d3, d4] => { results := [.lit (.bool true)], args := [d1, d2, d3, d4] }
  | _ => none }
def instrcodeTruncatedRow : OpenClaim := { program := "ytknpjbbkageiiaa", sum := "6e2f0ae2d91c3d7ba96ca1d994efcacaeebb97d9a2b8fb430ac624781eae24e6", func := "regcert/regcertlaw17.InstrcodeTruncated", spec := "instrcodeTruncated", unfollowed := true, recurses := true, apart := false }
def InstrcodeTruncatedSaid : Prop := instrcodeTruncatedRow.holds Try.pinned (OpenSpec.ofChange instrcodeTruncatedSpec)

/-- ITS FALSE NEIGHBOUR: 'it returns false'. Refute it at one input. -/
def instrcodeTruncatedWrong : ChangeSpec := { name := "instrcodeTruncated", fn := fun _ => fun
  | [d1, d2, d3, d4] => { results := [.lit (.bool false)], args := [d1, d2, d3, d4] }
  | _ => none }
def InstrcodeTruncatedWrongFalsely : Prop := instrcodeTruncatedRow.holds Try.pinned (OpenSpec.ofChange instrcodeTruncatedWrong)

/-- 'regcertlaw17.InstrcodeCanonical': WHATEVER THE INPUT: true; the input reads as it did. -/
def instrcodeCanonicalSpec : ChangeSpec := { name := "instrcodeCanonical", fn := fun _ => fun
  | [d1, d2, d3, d4] => { results := [.lit (.bool true)], args := [d1, d2, d3, d4] }
  | _ => none }
def instrcodeCanonicalRow : OpenClaim := { program := "ytknpjbbkageiiaa", sum := "6e2f0ae2d91c3d7ba96ca1d994efcacaeebb97d9a2b8fb430ac624781eae24e6", func := "regcert/regcertlaw17.InstrcodeCanonical", spec := "instrcodeCanonical", unfollowed := true, recurses := true, apart := false }
def InstrcodeCanonicalSaid : Prop := instrcodeCanonicalRow.holds Try.pinned (OpenSpec.ofChange instrcodeCanonicalSpec)

/-- ITS FALSE NEIGHBOUR: 'it returns false'. Refute it at one input. -/
def instrcodeCanonicalWrong : ChangeSpec := { name := "instrcodeCanonical", fn := fun _ => fun
  | [d1, d2, d3, d4] => { results := [.lit (.bool false)], args := [d1, d2, d3, d4] }
  | _ => none }
def InstrcodeCanonicalWrongFalsely : Prop := instrcodeCanonicalRow.holds Try.pinned (OpenSpec.ofChange instrcodeCanonicalWrong)

/-- 'regcertlaw18.FunccodeKeeps': WHATEVER THE INPUT: true; the input reads as it did. -/
def funccodeKeepsSpec : ChangeSpec := { name := "funccodeKeeps", fn := fun _ => fun
  | [d] => { results := [.lit (.bool true)], args := [d] }
  | _ => none }
def funccodeKeepsRow : OpenClaim := { program := "ytknpjbbkageiiaa", sum := "6e2f0ae2d91c3d7ba96ca1d994efcacaeebb97d9a2b8fb430ac624781eae24e6", func := "regcert/regcertlaw18.FunccodeKeeps", spec := "funccodeKeeps", unfollowed := true, recurses := true, apart := false }
def FunccodeKeepsSaid : Prop := funccodeKeepsRow.holds Try.pinned (OpenSpec.ofChange funccodeKeepsSpec)

/-- ITS FALSE NEIGHBOUR: 'it returns false'. Refute it at one input. -/
def funccodeKeepsWrong : ChangeSpec := { name := "funccodeKeeps", fn := fun _ => fun
  | [d] => { results := [.lit (.bool false)], args := [d] }
  | _ => none }
def FunccodeKeepsWrongFalsely : Prop := funccodeKeepsRow.holds Try.pinned (OpenSpec.ofChange funccodeKeepsWrong)

/-- 'regcertlaw18.FunccodeMatchesReference': WHATEVER THE INPUT: true; the input reads as it did. -/
def funccodeMatchesReferenceSpec : ChangeSpec := { name := "funccodeMatchesReference", fn := fun _ => fun
  | [d] => { results := [.lit (.bool true)], args := [d] }
  | _ => none }
def funccodeMatchesReferenceRow : OpenClaim := { program := "ytknpjbbkageiiaa", sum := "6e2f0ae2d91c3d7ba96ca1d994efcacaeebb97d9a2b8fb430ac624781eae24e6", func := "regcert/regcertlaw18.FunccodeMatchesReference", spec := "funccodeMatchesReference", unfollowed := true, recurses := true, apart := false }
def FunccodeMatchesReferenceSaid : Prop := funccodeMatchesReferenceRow.holds Try.pinned (OpenSpec.ofChange funccodeMatchesReferenceSpec)

/-- ITS FALSE NEIGHBOUR: 'it returns false'. Refute it at one input. -/
def funccodeMatchesReferenceWrong : ChangeSpec := { name := "funccodeMatchesReference", fn := fun _ => fun
  | [d] => { results := [.lit (.bool false)], args := [d] }
  | _ => none }
def FunccodeMatchesReferenceWrongFalsely : Prop := funccodeMatchesReferenceRow.holds Try.pinned (OpenSpec.ofChange funccodeMatchesReferenceWrong)

/-- 'regcertlaw18.FunccodeTruncated': WHATEVER THE INPUT: true; the input reads as it did. -/
def funccodeTruncatedSpec : ChangeSpec := { name := "funccodeTruncated", fn := fun _ => fun
  | [d1, d2] => { results := [.lit (.bool true)], args := [d1, d2] }
  | _ => none }
def funccodeTruncatedRow : OpenClaim := { program := "ytknpjbbkageiiaa", sum := "6e2f0ae2d91c3d7ba96ca1d994efcacaeebb97d9a2b8fb430ac624781eae24e6", func := "regcert/regcertlaw18.FunccodeTruncated", spec := "funccodeTruncated", unfollowed := true, recurses := true, apart := false }
def FunccodeTruncatedSaid : Prop := funccodeTruncatedRow.holds Try.pinned (OpenSpec.ofChange funccodeTruncatedSpec)

/-- ITS FALSE NEIGHBOUR: 'it returns false'. Refute it at one input. -/
def funccodeTruncatedWrong : ChangeSpec := { name := "funccodeTruncated", fn := fun _ => fun
  | [d1, d2] => { results := [.lit (.bool false)], args := [d1, d2] }
  | _ => none }
def FunccodeTruncatedWrongFalsely : Prop := funccodeTruncatedRow.holds Try.pinned (OpenSpec.ofChange funccodeTruncatedWrong)

/-- 'regcertlaw18.FunccodeCanonical': WHATEVER THE INPUT: true; the input reads as it did. -/
def funccodeCanonicalSpec : ChangeSpec := { name := "funccodeCanonical", fn := fun _ => fun
  | [d] => { results := [.lit (.bool true)], args := [d] }
  | _ => none }
def funccodeCanonicalRow : OpenClaim := { program := "ytknpjbbkageiiaa", sum := "6e2f0ae2d91c3d7ba96ca1d994efcacaeebb97d9a2b8fb430ac624781eae24e6", func := "regcert/regcertlaw18.FunccodeCanonical", spec := "funccodeCanonical", unfollowed := true, recurses := true, apart := false }
def FunccodeCanonicalSaid : Prop := funccodeCanonicalRow.holds Try.pinned (OpenSpec.ofChange funccodeCanonicalSpec)

/-- ITS FALSE NEIGHBOUR: 'it returns false'. Refute it at one input. -/
def funccodeCanonicalWrong : ChangeSpec := { name := "funccodeCanonical", fn := fun _ => fun
  | [d] => { results := [.lit (.bool false)], args := [d] }
  | _ => none }
def FunccodeCanonicalWrongFalsely : Prop := funccodeCanonicalRow.holds Try.pinned (OpenSpec.ofChange funccodeCanonicalWrong)

/-- 'regcertlaw18.FunccodeRoundTrip': WHATEVER THE INPUT: true; the input reads as it did. -/
def funccodeRoundTripSpec : ChangeSpec := { name := "funccodeRoundTrip", fn := fun _ => fun
  | [d1, d2, d3] => { results := [.lit (.bool true)], args := [d1, d2, d3] }
  | _ => none }
def funccodeRoundTripRow : OpenClaim := { program := "ytknpjbbkageiiaa", sum := "6e2f0ae2d91c3d7ba96ca1d994efcacaeebb97d9a2b8fb430ac624781eae24e6", func := "regcert/regcertlaw18.FunccodeRoundTrip", spec := "funccodeRoundTrip", unfollowed := true, recurses := true, apart := false }
def FunccodeRoundTripSaid : Prop := funccodeRoundTripRow.holds Try.pinned (OpenSpec.ofChange funccodeRoundTripSpec)

/-- ITS FALSE NEIGHBOUR: 'it returns false'. Refute it at one input. -/
def funccodeRoundTripWrong : ChangeSpec := { name := "funccodeRoundTrip", fn := fun _ => fun
  | [d1, d2, d3] => { results := [.lit (.bool false)], args := [d1, d2, d3] }
  | _ => none }
def FunccodeRoundTripWrongFalsely : Prop := funccodeRoundTripRow.holds Try.pinned (OpenSpec.ofChange funccodeRoundTripWrong)

/- THE SECOND FORM. 'bulk': how many values and letters a reading holds, each counted each time it is reached (what is shared counts as often as it is met; a slice's spare places count too). A statement '..UptoSaid' is the law's where the arguments, and the package variables that the reading takes, are together of bulk at most 1048576: NARROWER than '..Said'. Prove '..Said' where nothing that the law and all that it calls make is longer than what came in: it says more and counts as full. Else prove '..UptoSaid'. A law counts once. -/
mutual
def uptoBulk {H : Type} : DataW H → Nat
  | .lit (.string bytes) => bytes.length + 1
  | .lit _ => 1
  | .nil => 1
  | .ptr d => uptoBulk d + 1
  | .slice elems spare => uptoBulkAll elems + uptoBulkAll spare + 1
  | .agg parts => uptoBulkAll parts + 1
  | .iface _ d => uptoBulk d + 1
  | .map entries => uptoBulkEntries entries + 1
  | .held _ => 1
def uptoBulkAll {H : Type} : List (DataW H) → Nat
  | [] => 0
  | d :: r => uptoBulk d + uptoBulkAll r
def uptoBulkEntries {H : Type} : List (Lit × DataW H) → Nat
  | [] => 0
  | x :: r => uptoBulkEntry x + uptoBulkEntries r
def uptoBulkEntry {H : Type} : Lit × DataW H → Nat
  | (.string bytes, d) => bytes.length + uptoBulk d + 1
  | (_, d) => uptoBulk d + 1
 end
def uptoSmall : (H : Type) → List (DataW H) → Bool := fun _ ds => decide (uptoBulkAll ds ≤ 1048576)
def OpenSpec.upto (s : _root_.Go.ChangeSpec) : _root_.Go.OpenSpec := { _root_.Go.OpenSpec.ofChange s with cond := some uptoSmall }

/-- 'regcertlaw17.InstrcodeMatchesReference', WHERE WHAT IT READS IS OF BULK AT MOST 1048576: true; the input reads as it did. -/
def instrcodeMatchesReferenceUptoRow : OpenClaim := { program := "ytknpjbbkageiiaa", sum := "6e2f0ae2d91c3d7ba96ca1d994efcacaeebb97d9a2b8fb430ac624781eae24e6", func := "regcert/regcertlaw17.InstrcodeMatchesReference", spec := "instrcodeMatchesReference", unfollowed := true, recurses := true, apart := false, narrowed := true }
def InstrcodeMatchesReferenceUptoSaid : Prop := instrcodeMatchesReferenceUptoRow.holds Try.pinned (OpenSpec.upto instrcodeMatchesReferenceSpec)

/-- 'regcertlaw17.InstrcodeRoundTrip', WHERE WHAT IT READS IS OF BULK AT MOST 1048576: true; the input reads as it did. -/
def instrcodeRoundTripUptoRow : OpenClaim := { program := "ytknpjbbkageiiaa", sum := "6e2f0ae2d91c3d7ba96ca1d994efcacaeebb97d9a2b8fb430ac624781eae24e6", func := "regcert/regcertlaw17.InstrcodeRoundTrip", spec := "instrcodeRoundTrip", unfollowed := true, recurses := true, apart := false, narrowed := true }
def InstrcodeRoundTripUptoSaid : Prop := instrcodeRoundTripUptoRow.holds Try.pinned (OpenSpec.upto instrcodeRoundTripSpec)

/-- 'regcertlaw17.InstrcodeTruncated', WHERE WHAT IT READS IS OF BULK AT MOST 1048576: true; the input reads as it did. -/
def instrcodeTruncatedUptoRow : OpenClaim := { program := "ytknpjbbkageiiaa", sum := "6e2f0ae2d91c3d7ba96ca1d994efcacaeebb97d9a2b8fb430ac624781eae24e6", func := "regcert/regcertlaw17.InstrcodeTruncated", spec := "instrcodeTruncated", unfollowed := true, recurses := true, apart := false, narrowed := true }
def InstrcodeTruncatedUptoSaid : Prop := instrcodeTruncatedUptoRow.holds Try.pinned (OpenSpec.upto instrcodeTruncatedSpec)

/-- 'regcertlaw17.InstrcodeCanonical', WHERE WHAT IT READS IS OF BULK AT MOST 1048576: true; the input reads as it did. -/
def instrcodeCanonicalUptoRow : OpenClaim := { program := "ytknpjbbkageiiaa", sum := "6e2f0ae2d91c3d7ba96ca1d994efcacaeebb97d9a2b8fb430ac624781eae24e6", func := "regcert/regcertlaw17.InstrcodeCanonical", spec := "instrcodeCanonical", unfollowed := true, recurses := true, apart := false, narrowed := true }
def InstrcodeCanonicalUptoSaid : Prop := instrcodeCanonicalUptoRow.holds Try.pinned (OpenSpec.upto instrcodeCanonicalSpec)

/-- 'regcertlaw18.FunccodeKeeps', WHERE WHAT IT READS IS OF BULK AT MOST 1048576: true; the input reads as it did. -/
def funccodeKeepsUptoRow : OpenClaim := { program := "ytknpjbbkageiiaa", sum := "6e2f0ae2d91c3d7ba96ca1d994efcacaeebb97d9a2b8fb430ac624781eae24e6", func := "regcert/regcertlaw18.FunccodeKeeps", spec := "funccodeKeeps", unfollowed := true, recurses := true, apart := false, narrowed := true }
def FunccodeKeepsUptoSaid : Prop := funccodeKeepsUptoRow.holds Try.pinned (OpenSpec.upto funccodeKeepsSpec)

/-- 'regcertlaw18.FunccodeMatchesReference', WHERE WHAT IT READS IS OF BULK AT MOST 1048576: true; the input reads as it did. -/
def funccodeMatchesReferenceUptoRow : OpenClaim := { program := "ytknpjbbkageiiaa", sum := "6e2f0ae2d91c3d7ba96ca1d994efcacaeebb97d9a2b8fb430ac624781eae24e6", func := "regcert/regcertlaw18.FunccodeMatchesReference", spec := "funccodeMatchesReference", unfollowed := true, recurses := true, apart := false, narrowed := true }
def FunccodeMatchesReferenceUptoSaid : Prop := funccodeMatchesReferenceUptoRow.holds Try.pinned (OpenSpec.upto funccodeMatchesReferenceSpec)

/-- 'regcertlaw18.FunccodeTruncated', WHERE WHAT IT READS IS OF BULK AT MOST 1048576: true; the input reads as it did. -/
def funccodeTruncatedUptoRow : OpenClaim := { program := "ytknpjbbkageiiaa", sum := "6e2f0ae2d91c3d7ba96ca1d994efcacaeebb97d9a2b8fb430ac624781eae24e6", func := "regcert/regcertlaw18.FunccodeTruncated", spec := "funccodeTruncated", unfollowed := true, recurses := true, apart := false, narrowed := true }
def FunccodeTruncatedUptoSaid : Prop := funccodeTruncatedUptoRow.holds Try.pinned (OpenSpec.upto funccodeTruncatedSpec)

/-- 'regcertlaw18.FunccodeCanonical', WHERE WHAT IT READS IS OF BULK AT MOST 1048576: true; the input reads as it did. -/
def funccodeCanonicalUptoRow : OpenClaim := { program := "ytknpjbbkageiiaa", sum := "6e2f0ae2d91c3d7ba96ca1d994efcacaeebb97d9a2b8fb430ac624781eae24e6", func := "regcert/regcertlaw18.FunccodeCanonical", spec := "funccodeCanonical", unfollowed := true, recurses := true, apart := false, narrowed := true }
def FunccodeCanonicalUptoSaid : Prop := funccodeCanonicalUptoRow.holds Try.pinned (OpenSpec.upto funccodeCanonicalSpec)

/-- 'regcertlaw18.FunccodeRoundTrip', WHERE WHAT IT READS IS OF BULK AT MOST 1048576: true; the input reads as it did. -/
def funccodeRoundTripUptoRow : OpenClaim := { program := "ytknpjbbkageiiaa", sum := "6e2f0ae2d91c3d7ba96ca1d994efcacaeebb97d9a2b8fb430ac624781eae24e6", func := "regcert/regcertlaw18.FunccodeRoundTrip", spec := "funccodeRoundTrip", unfollowed := true, recurses := true, apart := false, narrowed := true }
def FunccodeRoundTripUptoSaid : Prop := funccodeRoundTripUptoRow.holds Try.pinned (OpenSpec.upto funccodeRoundTripSpec)

end Rows
end Go.Proofs.Ytknpjbbkageiiaa
