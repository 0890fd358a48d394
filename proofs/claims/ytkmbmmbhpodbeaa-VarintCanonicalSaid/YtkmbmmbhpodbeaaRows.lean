/-
  No cell of these rows narrows 'for every input' (looked for: loops, veiled, ifaces, maps, wideKeys, modest, calm, conditions, laid).
  DERIVED. THE GIVEN ROWS OF THIS SEAT. 6 by the template 'for every input the law returns true; each argument reads behind the call as it read before'; 0 by the template 'total and deterministic' (their statements: YtkmbmmbhpodbeaaTotals.lean).
  GIVEN WITH THE SEED: the statements are not yours to turn. If you find one false, say at which input.
  Laid BY PROGRAM, IN A SANDBOX (cutbox-rows.mjs): the forced cells as the released guide's own fill.sh prints them over the translation 3377265e764d52de… (all of the seat's roots in one cut). By AI agents, Wed Nov 11 2026. No macro, syntax, notation, axiom, sorry.
-/
import Derived.Test.YtkmbmmbhpodbeaaChecked
import GoSem.Claim
import GoSem.ClaimJoined
import GoSem.ClaimMapViews
import Derived.JoinedTies
import Derived.KernelRfl
namespace Go.Proofs.Ytkmbmmbhpodbeaa
/- THE CELL 'sum', in the pinned program and in every row, IS THE sha256 OF THE DUMP (.gsa) THAT YtkmbmmbhpodbeaaProg.lean LOADS. Nothing in Lean hashes anything: it is a label: what it is worth is what the hold of that sum in a sandbox is worth. -/
noncomputable def Try.pinned : Pinned := { name := "ytkmbmmbhpodbeaa", sum := "3377265e764d52dea27245c0603a559768e28e1eb091dde52706cf5da9fe5c68", checked := Try.checked }
namespace Rows
def none {H : Type} : Left H := { results := [], args := [] }

/-- 'regcertlaw01.VarintMatchesReference': WHATEVER THE INPUT: true; the input reads as it did. -/
def varintMatchesReferenceSpec : ChangeSpec := { name := "varintMatchesReference", fn := fun _ => fun
  | [d1, d2, d3] => { results := [.lit (.bool true)], args := [d1, d2, d3] }
  | _ => none }
def varintMatchesReferenceRow : OpenClaim := { program := "ytkmbmmbhpodbeaa", sum := "3377265e764d52dea27245c0603a559768e28e1eb091dde52706cf5da9fe5c68", func := "regcert/regcertlaw01.VarintMatchesReference", spec := "varintMatchesReference", apart := false }
def VarintMatchesReferenceSaid : Prop := varintMatchesReferenceRow.holds Try.pinned (OpenSpec.ofChange varintMatchesReferenceSpec)

/-- ITS FALSE NEIGHBOUR: 'it returns false'. Refute it at one input. -/
def varintMatchesReferenceWrong : ChangeSpec := { name := "varintMatchesReference", fn := fun _ => fun
  | [d1, d2, d3] => { results := [.lit (.bool false)], args := [d1, d2, d3] }
  | _ => none }
def VarintMatchesReferenceWrongFalsely : Prop := varintMatchesReferenceRow.holds Try.pinned (OpenSpec.ofChange varintMatchesReferenceWrong)

/-- 'regcertlaw01.VarintRoundTrip': WHATEVER THE INPUT: true; the input reads as it did. -/
def varintRoundTripSpec : ChangeSpec := { name := "varintRoundTrip", fn := fun _ => fun
  | [d1, d2] => { results := [.lit (.bool true)], args := [d1, d2] }
  | _ => none }
def varintRoundTripRow : OpenClaim := { program := "ytkmbmmbhpodbeaa", sum := "3377265e764d52dea27245c0603a559768e28e1eb091dde52706cf5da9fe5c68", func := "regcert/regcertlaw01.VarintRoundTrip", spec := "varintRoundTrip", apart := false }
def VarintRoundTripSaid : Prop := varintRoundTripRow.holds Try.pinned (OpenSpec.ofChange varintRoundTripSpec)

/-- ITS FALSE NEIGHBOUR: 'it returns false'. Refute it at one input. -/
def varintRoundTripWrong : ChangeSpec := { name := "varintRoundTrip", fn := fun _ => fun
  | [d1, d2] => { results := [.lit (.bool false)], args := [d1, d2] }
  | _ => none }
def VarintRoundTripWrongFalsely : Prop := varintRoundTripRow.holds Try.pinned (OpenSpec.ofChange varintRoundTripWrong)

/-- 'regcertlaw01.VarintCanonical': WHATEVER THE INPUT: true; the input reads as it did. -/
def varintCanonicalSpec : ChangeSpec := { name := "varintCanonical", fn := fun _ => fun
  | [d1, d2, d3] => { results := [.lit (.bool true)], args := [d1, d2, d3] }
  | _ => none }
def varintCanonicalRow : OpenClaim := { program := "ytkmbmmbhpodbeaa", sum := "3377265e764d52dea27245c0603a559768e28e1eb091dde52706cf5da9fe5c68", func := "regcert/regcertlaw01.VarintCanonical", spec := "varintCanonical", apart := false }
def VarintCanonicalSaid : Prop := varintCanonicalRow.holds Try.pinned (OpenSpec.ofChange varintCanonicalSpec)

/-- ITS FALSE NEIGHBOUR: 'it returns false'. Refute it at one input. -/
def varintCanonicalWrong : ChangeSpec := { name := "varintCanonical", fn := fun _ => fun
  | [d1, d2, d3] => { results := [.lit (.bool false)], args := [d1, d2, d3] }
  | _ => none }
def VarintCanonicalWrongFalsely : Prop := varintCanonicalRow.holds Try.pinned (OpenSpec.ofChange varintCanonicalWrong)

/-- 'regcertlaw01.VarintPrefixes': WHATEVER THE INPUT: true; the input reads as it did. -/
def varintPrefixesSpec : ChangeSpec := { name := "varintPrefixes", fn := fun _ => fun
  | [d1, d2] => { results := [.lit (.bool true)], args := [d1, d2] }
  | _ => none }
def varintPrefixesRow : OpenClaim := { program := "ytkmbmmbhpodbeaa", sum := "3377265e764d52dea27245c0603a559768e28e1eb091dde52706cf5da9fe5c68", func := "regcert/regcertlaw01.VarintPrefixes", spec := "varintPrefixes", apart := false }
def VarintPrefixesSaid : Prop := varintPrefixesRow.holds Try.pinned (OpenSpec.ofChange varintPrefixesSpec)

/-- ITS FALSE NEIGHBOUR: 'it returns false'. Refute it at one input. -/
def varintPrefixesWrong : ChangeSpec := { name := "varintPrefixes", fn := fun _ => fun
  | [d1, d2] => { results := [.lit (.bool false)], args := [d1, d2] }
  | _ => none }
def VarintPrefixesWrongFalsely : Prop := varintPrefixesRow.holds Try.pinned (OpenSpec.ofChange varintPrefixesWrong)

/-- 'regcertlaw01.VarintZigzag': WHATEVER THE INPUT: true; the input reads as it did. -/
def varintZigzagSpec : ChangeSpec := { name := "varintZigzag", fn := fun _ => fun
  | [d1, d2, d3] => { results := [.lit (.bool true)], args := [d1, d2, d3] }
  | _ => none }
def varintZigzagRow : OpenClaim := { program := "ytkmbmmbhpodbeaa", sum := "3377265e764d52dea27245c0603a559768e28e1eb091dde52706cf5da9fe5c68", func := "regcert/regcertlaw01.VarintZigzag", spec := "varintZigzag", apart := false }
def VarintZigzagSaid : Prop := varintZigzagRow.holds Try.pinned (OpenSpec.ofChange varintZigzagSpec)

/-- ITS FALSE NEIGHBOUR: 'it returns false'. Refute it at one input. -/
def varintZigzagWrong : ChangeSpec := { name := "varintZigzag", fn := fun _ => fun
  | [d1, d2, d3] => { results := [.lit (.bool false)], args := [d1, d2, d3] }
  | _ => none }
def VarintZigzagWrongFalsely : Prop := varintZigzagRow.holds Try.pinned (OpenSpec.ofChange varintZigzagWrong)

/-- 'regcertlaw01.VarintKeeps': WHATEVER THE INPUT: true; the input reads as it did. -/
def varintKeepsSpec : ChangeSpec := { name := "varintKeeps", fn := fun _ => fun
  | [d1, d2] => { results := [.lit (.bool true)], args := [d1, d2] }
  | _ => none }
def varintKeepsRow : OpenClaim := { program := "ytkmbmmbhpodbeaa", sum := "3377265e764d52dea27245c0603a559768e28e1eb091dde52706cf5da9fe5c68", func := "regcert/regcertlaw01.VarintKeeps", spec := "varintKeeps", apart := false }
def VarintKeepsSaid : Prop := varintKeepsRow.holds Try.pinned (OpenSpec.ofChange varintKeepsSpec)

/-- ITS FALSE NEIGHBOUR: 'it returns false'. Refute it at one input. -/
def varintKeepsWrong : ChangeSpec := { name := "varintKeeps", fn := fun _ => fun
  | [d1, d2] => { results := [.lit (.bool false)], args := [d1, d2] }
  | _ => none }
def VarintKeepsWrongFalsely : Prop := varintKeepsRow.holds Try.pinned (OpenSpec.ofChange varintKeepsWrong)

/- THE SECOND FORM. 'bulk': how many values and letters a reading holds, each counted each time it is reached (what is shared counts as often as it is met; a slice's spare places count too). A statement '..UptoSaid' is the law's where the arguments, and the package variables that the reading takes, are together of bulk at most 1048576: NARROWER than '..Said'. Prove '..Said' where nothing that the law and all that it calls make is longer than what came in: it says more and counts as full. Else prove '..UptoSaid'. A law counts once. -/
mutual
def uptoBulk {H : Type} : DataW H → Nat
  | .lit (.string bytes) => bytes.length + 1
  | .lit _ => 1
  | .nil => 1
  | .ptr d => uptoBulk d + 1
  | .slice elems spare => uptoBulkAll elems + uptoBulkAll spare + 1
  | .agg parts => uptoBulkAll parts + 1
  | .iface _ d => uptoBulk d + 1
  | .map entries => uptoBulkEntries entries + 1
  | .held _ => 1
def uptoBulkAll {H : Type} : List (DataW H) → Nat
  | [] => 0
  | d :: r => uptoBulk d + uptoBulkAll r
def uptoBulkEntries {H : Type} : List (Lit × DataW H) → Nat
  | [] => 0
  | x :: r => uptoBulkEntry x + uptoBulkEntries r
def uptoBulkEntry {H : Type} : Lit × DataW H → Nat
  | (.string bytes, d) => bytes.length + uptoBulk d + 1
  | (_, d) => uptoBulk d + 1
 end
def uptoSmall : (H : Type) → List (DataW H) → Bool := fun _ ds => decide (uptoBulkAll ds ≤ 1048576)
def OpenSpec.upto (s : _root_.Go.ChangeSpec) : _root_.Go.OpenSpec := { _root_.Go.OpenSpec.ofChange s with cond := some uptoSmall }

/-- 'regcertlaw01.VarintMatchesReference', WHERE WHAT IT READS IS OF BULK AT MOST 1048576: true; the input reads as it did. -/
def varintMatchesReferenceUptoRow : OpenClaim := { program := "ytkmbmmbhpodbeaa", sum := "3377265e764d52dea27245c0603a559768e28e1eb091dde52706cf5da9fe5c68", func := "regcert/regcertlaw01.VarintMatchesReference", spec := "varintMatchesReference", apart := false, narrowed := true }
def VarintMatchesReferenceUptoSaid : Prop := varintMatchesReferenceUptoRow.holds Try.pinned (OpenSpec.upto varintMatchesReferenceSpec)

/-- 'regcertlaw01.VarintRoundTrip', WHERE WHAT IT READS IS OF BULK AT MOST 1048576: true; the input reads as it did. -/
def varintRoundTripUptoRow : OpenClaim := { program := "ytkmbmmbhpodbeaa", sum := "3377265e764d52dea27245c0603a559768e28e1eb091dde52706cf5da9fe5c68", func := "regcert/regcertlaw01.VarintRoundTrip", spec := "varintRoundTrip", apart := false, narrowed := true }
def VarintRoundTripUptoSaid : Prop := varintRoundTripUptoRow.holds Try.pinned (OpenSpec.upto varintRoundTripSpec)

/-- 'regcertlaw01.VarintCanonical', WHERE WHAT IT READS IS OF BULK AT MOST 1048576: true; the input reads as it did. -/
def varintCanonicalUptoRow : OpenClaim := { program := "ytkmbmmbhpodbeaa", sum := "3377265e764d52dea27245c0603a559768e28e1eb091dde52706cf5da9fe5c68", func := "regcert/regcertlaw01.VarintCanonical", spec := "varintCanonical", apart := false, narrowed := true }
def VarintCanonicalUptoSaid : Prop := varintCanonicalUptoRow.holds Try.pinned (OpenSpec.upto varintCanonicalSpec)

/-- 'regcertlaw01.VarintPrefixes', WHERE WHAT IT READS IS OF BULK AT MOST 1048576: true; the input reads as it did. -/
def varintPrefixesUptoRow : OpenClaim := { program := "ytkmbmmbhpodbeaa", sum := "3377265e764d52dea27245c0603a559768e28e1eb091dde52706cf5da9fe5c68", func := "regcert/regcertlaw01.VarintPrefixes", spec := "varintPrefixes", apart := false, narrowed := true }
def VarintPrefixesUptoSaid : Prop := varintPrefixesUptoRow.holds Try.pinned (OpenSpec.upto varintPrefixesSpec)

/-- 'regcertlaw01.VarintZigzag', WHERE WHAT IT READS IS OF BULK AT MOST 1048576: true; the input reads as it did. -/
def varintZigzagUptoRow : OpenClaim := { program := "ytkmbmmbhpodbeaa", sum := "3377265e764d52dea27245c0603a559768e28e1eb091dde52706cf5da9fe5c68", func := "regcert/regcertlaw01.VarintZigzag", spec := "varintZigzag", apart := false, narrowed := true }
def VarintZigzagUptoSaid : Prop := varintZigzagUptoRow.holds Try.pinned (OpenSpec.upto varintZigzagSpec)

/-- 'regcertlaw01.VarintKeeps', WHERE WHAT IT READS IS OF BULK AT MOST 1048576: true; the input reads as it did. -/
def varintKeepsUptoRow : OpenClaim := { program := "ytkmbmmbhpodbeaa", sum := "3377265e764d52dea27245c0603a559768e28e1eb091dde52706cf5da9fe5c68", func := "regcert/regcertlaw01.VarintKeeps", spec := "varintKeeps", apart := false, narrowed := true }
def VarintKeepsUptoSaid : Prop := varintKeepsUptoRow.holds Try.pinned (OpenSpec.upto varintKeepsSpec)

end Rows
end Go.Proofs.Ytkmbmmbhpodbeaa
