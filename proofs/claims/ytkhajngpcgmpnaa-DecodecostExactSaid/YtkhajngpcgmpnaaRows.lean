/-
  No cell of these rows narrows 'for every input' (looked for: loops, veiled, ifaces, maps, wideKeys, modest, calm, conditions, laid).
  DERIVED. THE GIVEN ROWS OF THIS SEAT. 5 by the template 'for every input the law returns true; each argument reads behind the call as it read before'; 0 by the template 'total and deterministic' (their statements: YtkhajngpcgmpnaaTotals.lean).
  GIVEN WITH THE SEED: the statements are not yours to turn. If you find one false, say at which input.
  Laid BY PROGRAM, IN A SANDBOX (cutbox-rows.mjs): the forced cells as the released guide's own fill.sh prints them over the translation 6d1049834bd2ea0a… (all of the seat's roots in one cut). By AI agents, Wed Nov 11 2026. No macro, syntax, notation, axiom, sorry.
-/
import Derived.Test.YtkhajngpcgmpnaaChecked
import GoSem.Claim
import GoSem.ClaimJoined
import GoSem.ClaimMapViews
import Derived.JoinedTies
import Derived.KernelRfl
namespace Go.Proofs.Ytkhajngpcgmpnaa
/- THE CELL 'sum', in the pinned program and in every row, IS THE sha256 OF THE DUMP (.gsa) THAT YtkhajngpcgmpnaaProg.lean LOADS. Nothing in Lean hashes anything: it is a label: what it is worth is what the hold of that sum in a sandbox is worth. -/
noncomputable def Try.pinned : Pinned := { name := "ytkhajngpcgmpnaa", sum := "6d1049834bd2ea0ac0317a699f24d350a9a54dee0237c75bcd45832e95e7ea29", checked := Try.checked }
namespace Rows
def none {H : Type} : Left H := { results := [], args := [] }

/-- 'regcertlaw21.DecodecostMatchesReference': WHATEVER THE INPUT: true; the input reads as it did. -/
def decodecostMatchesReferenceSpec : ChangeSpec := { name := "decodecostMatchesReference", fn := fun _ => fun
  | [d] => { results := [.lit (.bool true)], args := [d] }
  | _ => none }
def decodecostMatchesReferenceRow : OpenClaim := { program := "ytkhajngpcgmpnaa", sum := "6d1049834bd2ea0ac0317a699f24d350a9a54dee0237c75bcd45832e95e7ea29", func := "regcert/regcertlaw21.DecodecostMatchesReference", spec := "decodecostMatchesReference", unfollowed := true, recurses := true, apart := false }
def DecodecostMatchesReferenceSaid : Prop := decodecostMatchesReferenceRow.holds Try.pinned (OpenSpec.ofChange decodecostMatchesReferenceSpec)

/-- ITS FALSE NEIGHBOUR: 'it returns false'. Refute it at one input. -/
def decodecostMatchesReferenceWrong : ChangeSpec := { name := "decodecostMatchesReference", fn := fun _ => fun
  | [d] => { results := [.lit (.bool false)], args := [d] }
  | _ => none }
def DecodecostMatchesReferenceWrongFalsely : Prop := decodecostMatchesReferenceRow.holds Try.pinned (OpenSpec.ofChange decodecostMatchesReferenceWrong)

/-- 'regcertlaw21.DecodecostLinear': WHATEVER THE INPUT: true; the input reads as it did. -/
def decodecostLinearSpec : ChangeSpec := { name := "decodecostLinear", fn := fun _ => fun
  | [d] => { results := [.lit (.bool true)], args := [d] }
  | _ => none }
def decodecostLinearRow : OpenClaim := { program := "ytkhajngpcgmpnaa", sum := "6d1049834bd2ea0ac0317a699f24d350a9a54dee0237c75bcd45832e95e7ea29", func := "regcert/regcertlaw21.DecodecostLinear", spec := "decodecostLinear", unfollowed := true, recurses := true, apart := false }
def DecodecostLinearSaid : Prop := decodecostLinearRow.holds Try.pinned (OpenSpec.ofChange decodecostLinearSpec)

/-- ITS FALSE NEIGHBOUR: 'it returns false'. Refute it at one input. -/
def decodecostLinearWrong : ChangeSpec := { name := "decodecostLinear", fn := fun _ => fun
  | [d] => { results := [.lit (.bool false)], args := [d] }
  | _ => none }
def DecodecostLinearWrongFalsely : Prop := decodecostLinearRow.holds Try.pinned (OpenSpec.ofChange decodecostLinearWrong)

/-- 'regcertlaw21.DecodecostExact': WHATEVER THE INPUT: true; the input reads as it did. -/
def decodecostExactSpec : ChangeSpec := { name := "decodecostExact", fn := fun _ => fun
  | [d] => { results := [.lit (.bool true)], args := [d] }
  | _ => none }
def decodecostExactRow : OpenClaim := { program := "ytkhajngpcgmpnaa", sum := "6d1049834bd2ea0ac0317a699f24d350a9a54dee0237c75bcd45832e95e7ea29", func := "regcert/regcertlaw21.DecodecostExact", spec := "decodecostExact", unfollowed := true, recurses := true, apart := false }
def DecodecostExactSaid : Prop := decodecostExactRow.holds Try.pinned (OpenSpec.ofChange decodecostExactSpec)

/-- ITS FALSE NEIGHBOUR: 'it returns false'. Refute it at one input. -/
def decodecostExactWrong : ChangeSpec := { name := "decodecostExact", fn := fun _ => fun
  | [d] => { results := [.lit (.bool false)], args := [d] }
  | _ => none }
def DecodecostExactWrongFalsely : Prop := decodecostExactRow.holds Try.pinned (OpenSpec.ofChange decodecostExactWrong)

/-- 'regcertlaw21.DecodecostHuge': WHATEVER THE INPUT: true; the input reads as it did. -/
def decodecostHugeSpec : ChangeSpec := { name := "decodecostHuge", fn := fun _ => fun
  | [d1, d2, d3, d4] => { results := [.lit (.bool true)], args := [d1, d2, d3, d4] }
  | _ => none }
def decodecostHugeRow : OpenClaim := { program := "ytkhajngpcgmpnaa", sum := "6d1049834bd2ea0ac0317a699f24d350a9a54dee0237c75bcd45832e95e7ea29", func := "regcert/regcertlaw21.DecodecostHuge", spec := "decodecostHuge", unfollowed := true, recurses := true, apart := false }
def DecodecostHugeSaid : Prop := decodecostHugeRow.holds Try.pinned (OpenSpec.ofChange decodecostHugeSpec)

/-- ITS FALSE NEIGHBOUR: 'it returns false'. Refute it at one input. -/
def decodecostHugeWrong : ChangeSpec := { name := "decodecostHuge", fn := fun _ => fun
  | [d1, d2, d3, d4] => { results := [.lit (.bool false)], args := [d1, d2, d3, d4] }
  | _ => none }
def DecodecostHugeWrongFalsely : Prop := decodecostHugeRow.holds Try.pinned (OpenSpec.ofChange decodecostHugeWrong)

/-- 'regcertlaw21.DecodecostKeeps': WHATEVER THE INPUT: true; the input reads as it did. -/
def decodecostKeepsSpec : ChangeSpec := { name := "decodecostKeeps", fn := fun _ => fun
  | [d] => { results := [.lit (.bool true)], args := [d] }
  | _ => none }
def decodecostKeepsRow : OpenClaim := { program := "ytkhajngpcgmpnaa", sum := "6d1049834bd2ea0ac0317a699f24d350a9a54dee0237c75bcd45832e95e7ea29", func := "regcert/regcertlaw21.DecodecostKeeps", spec := "decodecostKeeps", unfollowed := true, recurses := true, apart := false }
def DecodecostKeepsSaid : Prop := decodecostKeepsRow.holds Try.pinned (OpenSpec.ofChange decodecostKeepsSpec)

/-- ITS FALSE NEIGHBOUR: 'it returns false'. Refute it at one input. -/
def decodecostKeepsWrong : ChangeSpec := { name := "decodecostKeeps", fn := fun _ => fun
  | [d] => { results := [.lit (.bool false)], args := [d] }
  | _ => none }
def DecodecostKeepsWrongFalsely : Prop := decodecostKeepsRow.holds Try.pinned (OpenSpec.ofChange decodecostKeepsWrong)

/- THE SECOND FORM. 'bulk': how many values and letters a reading holds, each counted each time it is reached (what is shared counts as often as it is met; a slice's spare places count too). A statement '..UptoSaid' is the law's where the arguments, and the package variables that the reading takes, are together of bulk at most 1048576: NARROWER than '..Said'. Prove '..Said' where nothing that the law and all that it calls make is longer than what came in: it says more and counts as full. Else prove '..UptoSaid'. A law counts once. -/
mutual
def uptoBulk {H : Type} : DataW H → Nat
  | .lit (.string bytes) => bytes.length + 1
  | .lit _ => 1
  | .nil => 1
  | .ptr d => uptoBulk d + 1
  | .slice elems spare => uptoBulkAll elems + uptoBulkAll spare + 1
  | .agg parts => uptoBulkAll parts + 1
  | .iface _ d => uptoBulk d + 1
  | .map entries => uptoBulkEntries entries + 1
  | .held _ => 1
def uptoBulkAll {H : Type} : List (DataW H) → Nat
  | [] => 0
  | d :: r => uptoBulk d + uptoBulkAll r
def uptoBulkEntries {H : Type} : List (Lit × DataW H) → Nat
  | [] => 0
  | x :: r => uptoBulkEntry x + uptoBulkEntries r
def uptoBulkEntry {H : Type} : Lit × DataW H → Nat
  | (.string bytes, d) => bytes.length + uptoBulk d + 1
  | (_, d) => uptoBulk d + 1
 end
def uptoSmall : (H : Type) → List (DataW H) → Bool := fun _ ds => decide (uptoBulkAll ds ≤ 1048576)
def OpenSpec.upto (s : _root_.Go.ChangeSpec) : _root_.Go.OpenSpec := { _root_.Go.OpenSpec.ofChange s with cond := some uptoSmall }

/-- 'regcertlaw21.DecodecostMatchesReference', WHERE WHAT IT READS IS OF BULK AT MOST 1048576: true; the input reads as it did. -/
def decodecostMatchesReferenceUptoRow : OpenClaim := { program := "ytkhajngpcgmpnaa", sum := "6d1049834bd2ea0ac0317a699f24d350a9a54dee0237c75bcd45832e95e7ea29", func := "regcert/regcertlaw21.DecodecostMatchesReference", spec := "decodecostMatchesReference", unfollowed := true, recurses := true, apart := false, narrowed := true }
def DecodecostMatchesReferenceUptoSaid : Prop := decodecostMatchesReferenceUptoRow.holds Try.pinned (OpenSpec.upto decodecostMatchesReferenceSpec)

/-- 'regcertlaw21.DecodecostLinear', WHERE WHAT IT READS IS OF BULK AT MOST 1048576: true; the input reads as it did. -/
def decodecostLinearUptoRow : OpenClaim := { program := "ytkhajngpcgmpnaa", sum := "6d1049834bd2ea0ac0317a699f24d350a9a54dee0237c75bcd45832e95e7ea29", func := "regcert/regcertlaw21.DecodecostLinear", spec := "decodecostLinear", unfollowed := true, recurses := true, apart := false, narrowed := true }
def DecodecostLinearUptoSaid : Prop := decodecostLinearUptoRow.holds Try.pinned (OpenSpec.upto decodecostLinearSpec)

/-- 'regcertlaw21.DecodecostExact', WHERE WHAT IT READS IS OF BULK AT MOST 1048576: true; the input reads as it did. -/
def decodecostExactUptoRow : OpenClaim := { program := "ytkhajngpcgmpnaa", sum := "6d1049834bd2ea0ac0317a699f24d350a9a54dee0237c75bcd45832e95e7ea29", func := "regcert/regcertlaw21.DecodecostExact", spec := "decodecostExact", unfollowed := true, recurses := true, apart := false, narrowed := true }
def DecodecostExactUptoSaid : Prop := decodecostExactUptoRow.holds Try.pinned (OpenSpec.upto decodecostExactSpec)

/-- 'regcertlaw21.DecodecostHuge', WHERE WHAT IT READS IS OF BULK AT MOST 1048576: true; the input reads as it did. -/
def decodecostHugeUptoRow : OpenClaim := { program := "ytkhajngpcgmpnaa", sum := "6d1049834bd2ea0ac0317a699f24d350a9a54dee0237c75bcd45832e95e7ea29", func := "regcert/regcertlaw21.DecodecostHuge", spec := "decodecostHuge", unfollowed := true, recurses := true, apart := false, narrowed := true }
def DecodecostHugeUptoSaid : Prop := decodecostHugeUptoRow.holds Try.pinned (OpenSpec.upto decodecostHugeSpec)

/-- 'regcertlaw21.DecodecostKeeps', WHERE WHAT IT READS IS OF BULK AT MOST 1048576: true; the input reads as it did. -/
def decodecostKeepsUptoRow : OpenClaim := { program := "ytkhajngpcgmpnaa", sum := "6d1049834bd2ea0ac0317a699f24d350a9a54dee0237c75bcd45832e95e7ea29", func := "regcert/regcertlaw21.DecodecostKeeps", spec := "decodecostKeeps", unfollowed := true, recurses := true, apart := false, narrowed := true }
def DecodecostKeepsUptoSaid : Prop := decodecostKeepsUptoRow.holds Try.pinned (OpenSpec.upto decodecostKeepsSpec)

end Rows
end Go.Proofs.Ytkhajngpcgmpnaa
