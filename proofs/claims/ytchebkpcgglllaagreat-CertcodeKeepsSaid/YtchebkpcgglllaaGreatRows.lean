/-
  No cell of these rows narrows 'for every input' (looked for: loops, veiled, ifaces, maps, wideKeys, modest, calm, conditions, laid).
  DERIVED. THE GIVEN ROWS OF THIS SEAT. 5 by the template 'for every input the law returns true; each argument reads behind the call as it read before'; 0 by the template 'total and deterministic' (their statements: YtchebkpcgglllaaGreatTotals.lean).
  GIVEN WITH THE SEED: the statements are not yours to turn. If you find one false, say at which input.
  Laid BY PROGRAM, IN A SANDBOX (cutbox-rows.mjs): the forced cells as the released guide's own fill.sh prints them over the translation ac23f375ca8692bf… (all of the seat's roots in one cut). By AI agents, Wed Nov 11 2026. No macro, syntax, notation, axiom, sorry.
-/
import Derived.Test.YtchebkpcgglllaaGreatChecked
import GoSem.Claim
import GoSem.ClaimJoined
import GoSem.ClaimMapViews
import Derived.JoinedTies
import Derived.KernelRfl
namespace Go.Proofs.YtchebkpcgglllaaGreat
/- THE CELL 'sum', in the pinned program and in every row, IS THE sha256 OF THE DUMP (.gsa) THAT YtchebkpcgglllaaGreatProg.lean LOADS. Nothing in Lean hashes anything: it is a label: what it is worth is what the hold of that sum in a sandbox is worth. -/
noncomputable def Tryz.pinned : Pinned := { name := "ytchebkpcgglllaagreat", sum := "ac23f375ca8692bfd280c4635a9a69da1662f5ee404c7b056ff3f374ad1564ec", checked := Tryz.checked }
namespace Rows
def none {H : Type} : Left H := { results := [], args := [] }

/-- 'regcertlaw20.CertcodeMatchesReference': WHATEVER THE INPUT: true; the input reads as it did. -/
def certcodeMatchesReferenceSpec : ChangeSpec := { name := "certcodeMatchesReference", fn := fun _ => fun
  | [d1, d2] => { results := [.lit (.bool true)], args := [d1, d2] }
  | _ => none }
def certcodeMatchesReferenceRow : OpenClaim := { program := "ytchebkpcgglllaagreat", sum := "ac23f375ca8692bfd280c4635a9a69da1662f5ee404c7b056ff3f374ad1564ec", func := "regcert/regcertlaw20.CertcodeMatchesReference", spec := "certcodeMatchesReference", unfollowed := true, recurses := true, apart := false }
def CertcodeMatchesReferenceSaid : Prop := certcodeMatchesReferenceRow.holds Tryz.pinned (OpenSpec.ofChange certcodeMatchesReferenceSpec)

/-- ITS FALSE NEIGHBOUR: 'it returns false'. Refute it at one input. -/
def certcodeMatchesReferenceWrong : ChangeSpec := { name := "certcodeMatchesReference", fn := fun _ => fun
  | [d1, d2] => { results := [.lit (.bool false)], args := [d1, d2] }
  | _ => none }
def CertcodeMatchesReferenceWrongFalsely : Prop := certcodeMatchesReferenceRow.holds Tryz.pinned (OpenSpec.ofChange certcodeMatchesReferenceWrong)

/-- 'regcertlaw20.CertcodeBijection': WHATEVER THE INPUT: true; the input reads as it did. -/
def certcodeBijectionSpec : ChangeSpec := { name := "certcodeBijection", fn := fun _ => fun
  | [d] => { results := [.lit (.bool true)], args := [d] }
  | _ => none }
def certcodeBijectionRow : OpenClaim := { program := "ytchebkpcgglllaagreat", sum := "ac23f375ca8692bfd280c4635a9a69da1662f5ee404c7b056ff3f374ad1564ec", func := "regcert/regcertlaw20.CertcodeBijection", spec := "certcodeBijection", unfollowed := true, recurses := true, apart := false }
def CertcodeBijectionSaid : Prop := certcodeBijectionRow.holds Tryz.pinned (OpenSpec.ofChange certcodeBijectionSpec)

/-- ITS FALSE NEIGHBOUR: 'it returns false'. Refute it at one input. -/
def certcodeBijectionWrong : ChangeSpec := { name := "certcodeBijection", fn := fun _ => fun
  | [d] => { results := [.lit (.bool false)], args := [d] }
  | _ => none }
def CertcodeBijectionWrongFalsely : Prop := certcodeBijectionRow.holds Tryz.pinned (OpenSpec.ofChange certcodeBijectionWrong)

/-- 'regcertlaw20.CertcodeCanonical': WHATEVER THE INPUT: true; the input reads as it did. -/
def certcodeCanonicalSpec : ChangeSpec := { name := "certcodeCanonical", fn := fun _ => fun
  | [d] => { results := [.lit (.bool true)], args := [d] }
  | _ => none }
def certcodeCanonicalRow : OpenClaim := { program := "ytchebkpcgglllaagreat", sum := "ac23f375ca8692bfd280c4635a9a69da1662f5ee404c7b056ff3f374ad1564ec", func := "regcert/regcertlaw20.CertcodeCanonical", spec := "certcodeCanonical", unfollowed := true, recurses := true, apart := false }
def CertcodeCanonicalSaid : Prop := certcodeCanonicalRow.holds Tryz.pinned (OpenSpec.ofChange certcodeCanonicalSpec)

/-- ITS FALSE NEIGHBOUR: 'it returns false'. Refute it at one input. -/
def certcodeCanonicalWrong : ChangeSpec := { name := "certcodeCanonical", fn := fun _ => fun
  | [d] => { results := [.lit (.bool false)], args := [d] }
  | _ => none }
def CertcodeCanonicalWrongFalsely : Prop := certcodeCanonicalRow.holds Tryz.pinned (OpenSpec.ofChange certcodeCanonicalWrong)

/-- 'regcertlaw20.CertcodeDamage': WHATEVER THE INPUT: true; the input reads as it did. -/
def certcodeDamageSpec : ChangeSpec := { name := "certcodeDamage", fn := fun _ => fun
  | [d1, d2, d3, d4, d5] => { results := [.lit (.bool true)], args := [d1, d2, d3, d4, d5] }
  | _ => none }
def certcodeDamageRow : OpenClaim := { program := "ytchebkpcgglllaagreat", sum := "ac23f375ca8692bfd280c4635a9a69da1662f5ee404c7b056ff3f374ad1564ec", func := "regcert/regcertlaw20.CertcodeDamage", spec := "certcodeDamage", unfollowed := true, recurses := true, apart := false }
def CertcodeDamageSaid : Prop := certcodeDamageRow.holds Tryz.pinned (OpenSpec.ofChange certcodeDamageSpec)

/-- ITS FALSE NEIGHBOUR: 'it returns false'. Refute it at one input. -/
def certcodeDamageWrong : ChangeSpec := { name := "certcodeDamage", fn := fun _ => fun
  | [d1, d2, d3, d4, d5] => { results := [.lit (.bool false)], args := [d1, d2, d3, d4, d5] }
  | _ => none }
def CertcodeDamageWrongFalsely : Prop := certcodeDamageRow.holds Tryz.pinned (OpenSpec.ofChange certcodeDamageWrong)

/-- 'regcertlaw20.CertcodeKeeps': WHATEVER THE INPUT: true; the input reads as it did. -/
def certcodeKeepsSpec : ChangeSpec := { name := "certcodeKeeps", fn := fun _ => fun
  | [d] => { results := [.lit (.bool true)], args := [d] }
  | _ => none }
def certcodeKeepsRow : OpenClaim := { program := "ytchebkpcgglllaagreat", sum := "ac23f375ca8692bfd280c4635a9a69da1662f5ee404c7b056ff3f374ad1564ec", func := "regcert/regcertlaw20.CertcodeKeeps", spec := "certcodeKeeps", unfollowed := true, recurses := true, apart := false }
def CertcodeKeepsSaid : Prop := certcodeKeepsRow.holds Tryz.pinned (OpenSpec.ofChange certcodeKeepsSpec)

/-- ITS FALSE NEIGHBOUR: 'it returns false'. Refute it at one input. -/
def certcodeKeepsWrong : ChangeSpec := { name := "certcodeKeeps", fn := fun _ => fun
  | [d] => { results := [.lit (.bool false)], args := [d] }
  | _ => none }
def CertcodeKeepsWrongFalsely : Prop := certcodeKeepsRow.holds Tryz.pinned (OpenSpec.ofChange certcodeKeepsWrong)

/- THE SECOND FORM. 'bulk': how many values and letters a reading holds, each counted each time it is reached (what is shared counts as often as it is met; a slice's spare places count too). A statement '..UptoSaid' is the law's where the arguments, and the package variables that the reading takes, are together of bulk at most 1048576: NARROWER than '..Said'. Prove '..Said' where nothing that the law and all that it calls make is longer than what came in: it says more and counts as full. Else prove '..UptoSaid'. A law counts once. -/
mutual
def uptoBulk {H : Type} : DataW H → Nat
  | .lit (.string bytes) => bytes.length + 1
  | .lit _ => 1
  | .nil => 1
  | .ptr d => uptoBulk d + 1
  | .slice elems spare => uptoBulkAll elems + uptoBulkAll spare + 1
  | .agg parts => uptoBulkAll parts + 1
  | .iface _ d => uptoBulk d + 1
  | .map entries => uptoBulkEntries entries + 1
  | .held _ => 1
def uptoBulkAll {H : Type} : List (DataW H) → Nat
  | [] => 0
  | d :: r => uptoBulk d + uptoBulkAll r
def uptoBulkEntries {H : Type} : List (Lit × DataW H) → Nat
  | [] => 0
  | x :: r => uptoBulkEntry x + uptoBulkEntries r
def uptoBulkEntry {H : Type} : Lit × DataW H → Nat
  | (.string bytes, d) => bytes.length + uptoBulk d + 1
  | (_, d) => uptoBulk d + 1
 end
def uptoSmall : (H : Type) → List (DataW H) → Bool := fun _ ds => decide (uptoBulkAll ds ≤ 1048576)
def OpenSpec.upto (s : _root_.Go.ChangeSpec) : _root_.Go.OpenSpec := { _root_.Go.OpenSpec.ofChange s with cond := some uptoSmall }

/-- 'regcertlaw20.CertcodeMatchesReference', WHERE WHAT IT READS IS OF BULK AT MOST 1048576: true; the input reads as it did. -/
def certcodeMatchesReferenceUptoRow : OpenClaim := { program := "ytchebkpcgglllaagreat", sum := "ac23f375ca8692bfd280c4635a9a69da1662f5ee404c7b056ff3f374ad1564ec", func := "regcert/regcertlaw20.CertcodeMatchesReference", spec := "certcodeMatchesReference", unfollowed := true, recurses := true, apart := false, narrowed := true }
def CertcodeMatchesReferenceUptoSaid : Prop := certcodeMatchesReferenceUptoRow.holds Tryz.pinned (OpenSpec.upto certcodeMatchesReferenceSpec)

/-- 'regcertlaw20.CertcodeBijection', WHERE WHAT IT READS IS OF BULK AT MOST 1048576: true; the input reads as it did. -/
def certcodeBijectionUptoRow : OpenClaim := { program := "ytchebkpcgglllaagreat", sum := "ac23f375ca8692bfd280c4635a9a69da1662f5ee404c7b056ff3f374ad1564ec", func := "regcert/regcertlaw20.CertcodeBijection", spec := "certcodeBijection", unfollowed := true, recurses := true, apart := false, narrowed := true }
def CertcodeBijectionUptoSaid : Prop := certcodeBijectionUptoRow.holds Tryz.pinned (OpenSpec.upto certcodeBijectionSpec)

/-- 'regcertlaw20.CertcodeCanonical', WHERE WHAT IT READS IS OF BULK AT MOST 1048576: true; the input reads as it did. -/
def certcodeCanonicalUptoRow : OpenClaim := { program := "ytchebkpcgglllaagreat", sum := "ac23f375ca8692bfd280c4635a9a69da1662f5ee404c7b056ff3f374ad1564ec", func := "regcert/regcertlaw20.CertcodeCanonical", spec := "certcodeCanonical", unfollowed := true, recurses := true, apart := false, narrowed := true }
def CertcodeCanonicalUptoSaid : Prop := certcodeCanonicalUptoRow.holds Tryz.pinned (OpenSpec.upto certcodeCanonicalSpec)

/-- 'regcertlaw20.CertcodeDamage', WHERE WHAT IT READS IS OF BULK AT MOST 1048576: true; the input reads as it did. -/
def certcodeDamageUptoRow : OpenClaim := { program := "ytchebkpcgglllaagreat", sum := "ac23f375ca8692bfd280c4635a9a69da1662f5ee404c7b056ff3f374ad1564ec", func := "regcert/regcertlaw20.CertcodeDamage", spec := "certcodeDamage", unfollowed := true, recurses := true, apart := false, narrowed := true }
def CertcodeDamageUptoSaid : Prop := certcodeDamageUptoRow.holds Tryz.pinned (OpenSpec.upto certcodeDamageSpec)

/-- 'regcertlaw20.CertcodeKeeps', WHERE WHAT IT READS IS OF BULK AT MOST 1048576: true; the input reads as it did. -/
def certcodeKeepsUptoRow : OpenClaim := { program := "ytchebkpcgglllaagreat", sum := "ac23f375ca8692bfd280c4635a9a69da1662f5ee404c7b056ff3f374ad1564ec", func := "regcert/regcertlaw20.CertcodeKeeps", spec := "certcodeKeeps", unfollowed := true, recurses := true, apart := false, narrowed := true }
def CertcodeKeepsUptoSaid : Prop := certcodeKeepsUptoRow.holds Tryz.pinned (OpenSpec.upto certcodeKeepsSpec)

end Rows
end Go.Proofs.YtchebkpcgglllaaGreat
