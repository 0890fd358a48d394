/-
  NARROWER THAN 'FOR EVERY INPUT', by the rows' own cells (each row's printed sentence says how): OpcodeMatchesReference: laid · OpcodeNames: laid · OpcodeOperands: laid.
  DERIVED. THE GIVEN ROWS OF THIS SEAT. 3 by the template 'for every input the law returns true; each argument reads behind the call as it read before'; 0 by the template 'total and deterministic' (their statements: YtlckmihmegnajaaDoorTotals.lean).
  GIVEN WITH THE SEED: the statements are not yours to turn. If you find one false, say at which input.
  Laid BY PROGRAM, IN A SANDBOX (cutbox-rows.mjs): the forced cells as the released guide's own fill.sh prints them over the translation 2e84714e43a47a83… (all of the seat's roots in one cut). By AI agents, Wed Nov 11 2026. No macro, syntax, notation, axiom, sorry.
-/
import Derived.Test.YtlckmihmegnajaaDoorChecked
import GoSem.Claim
import GoSem.ClaimJoined
import GoSem.ClaimMapViews
import Derived.JoinedTies
import Derived.KernelRfl
namespace Go.Proofs.YtlckmihmegnajaaDoor
/- THE CELL 'sum', in the pinned program and in every row, IS THE sha256 OF THE DUMP (.gsa) THAT YtlckmihmegnajaaDoorProg.lean LOADS. Nothing in Lean hashes anything: it is a label: what it is worth is what the hold of that sum in a sandbox is worth. -/
noncomputable def Tryd.pinned : Pinned := { name := "ytlckmihmegnajaadoor", sum := "2e84714e43a47a830e60579c32dfa4f7fb902e848bb31b39b4d9ba89ea0a5049", checked := Tryd.checked }
namespace Rows
def none {H : Type} : Left H := { results := [], args := [] }

/- WHAT THE LISTED PACKAGE-LEVEL VARIABLES READ AS WHEN THE CALL BEGINS. Each datum BY PROGRAM (the guide's laid-datum.mjs) off the statement by which the dump's own 'gosem.cut.vars' lays the variable. In a bare row this is a premise. The card (YtlckmihmegnajaaDoorCards.lean) ties it to the program's text. -/
def laid_regcert_opcode_names {H : Type} : DataW H := .agg [.lit (.string []), .lit (.string [99, 111, 110, 115, 116]), .lit (.string [99, 111, 112, 121]), .lit (.string [110, 101, 103]), .lit (.string [110, 111, 116]), .lit (.string [97, 100, 100]), .lit (.string [115, 117, 98]), .lit (.string [109, 117, 108]), .lit (.string [100, 105, 118]), .lit (.string [114, 101, 109]), .lit (.string [97, 110, 100]), .lit (.string [111, 114]), .lit (.string [120, 111, 114]), .lit (.string [115, 104, 108]), .lit (.string [115, 104, 114]), .lit (.string [101, 113]), .lit (.string [108, 101, 115, 115]), .lit (.string [101, 109, 105, 116]), .lit (.string [109, 111, 118, 101])]

/-- 'regcertlaw05.OpcodeMatchesReference': WHATEVER THE INPUT: true; the input reads as it did. -/
def opcodeMatchesReferenceSpec : ChangeSpec := { name := "opcodeMatchesReference", fn := fun _ => fun
  | [d1, d2] => { results := [.lit (.bool true)], args := [d1, d2] }
  | _ => none }
def opcodeMatchesReferenceRow : OpenClaim := { program := "ytlckmihmegnajaadoor", sum := "2e84714e43a47a830e60579c32dfa4f7fb902e848bb31b39b4d9ba89ea0a5049", func := "regcert/regcertlaw05.OpcodeMatchesReference", spec := "opcodeMatchesReference", named := ["regcert/opcode.names"], apart := false, laid := [("regcert/opcode.names", laid_regcert_opcode_names)] }
def OpcodeMatchesReferenceSaid : Prop := opcodeMatchesReferenceRow.holds Tryd.pinned (OpenSpec.ofChange opcodeMatchesReferenceSpec)

/-- ITS FALSE NEIGHBOUR: 'it returns false'. Refute it at one input. -/
def opcodeMatchesReferenceWrong : ChangeSpec := { name := "opcodeMatchesReference", fn := fun _ => fun
  | [d1, d2] => { results := [.lit (.bool false)], args := [d1, d2] }
  | _ => none }
def OpcodeMatchesReferenceWrongFalsely : Prop := opcodeMatchesReferenceRow.holds Tryd.pinned (OpenSpec.ofChange opcodeMatchesReferenceWrong)

/-- 'regcertlaw05.OpcodeNames': WHATEVER THE INPUT: true; the input reads as it did. -/
def opcodeNamesSpec : ChangeSpec := { name := "opcodeNames", fn := fun _ => fun
  | [d1, d2, d3] => { results := [.lit (.bool true)], args := [d1, d2, d3] }
  | _ => none }
def opcodeNamesRow : OpenClaim := { program := "ytlckmihmegnajaadoor", sum := "2e84714e43a47a830e60579c32dfa4f7fb902e848bb31b39b4d9ba89ea0a5049", func := "regcert/regcertlaw05.OpcodeNames", spec := "opcodeNames", named := ["regcert/opcode.names"], apart := false, laid := [("regcert/opcode.names", laid_regcert_opcode_names)] }
def OpcodeNamesSaid : Prop := opcodeNamesRow.holds Tryd.pinned (OpenSpec.ofChange opcodeNamesSpec)

/-- ITS FALSE NEIGHBOUR: 'it returns false'. Refute it at one input. -/
def opcodeNamesWrong : ChangeSpec := { name := "opcodeNames", fn := fun _ => fun
  | [d1, d2, d3] => { results := [.lit (.bool false)], args := [d1, d2, d3] }
  | _ => none }
def OpcodeNamesWrongFalsely : Prop := opcodeNamesRow.holds Tryd.pinned (OpenSpec.ofChange opcodeNamesWrong)

/-- 'regcertlaw05.OpcodeOperands': WHATEVER THE INPUT: true; the input reads as it did. -/
def opcodeOperandsSpec : ChangeSpec := { name := "opcodeOperands", fn := fun _ => fun
  | [d] => { results := [.lit (.bool true)], args := [d] }
  | _ => none }
def opcodeOperandsRow : OpenClaim := { program := "ytlckmihmegnajaadoor", sum := "2e84714e43a47a830e60579c32dfa4f7fb902e848bb31b39b4d9ba89ea0a5049", func := "regcert/regcertlaw05.OpcodeOperands", spec := "opcodeOperands", named := ["regcert/opcode.names"], apart := false, laid := [("regcert/opcode.names", laid_regcert_opcode_names)] }
def OpcodeOperandsSaid : Prop := opcodeOperandsRow.holds Tryd.pinned (OpenSpec.ofChange opcodeOperandsSpec)

/-- ITS FALSE NEIGHBOUR: 'it returns false'. Refute it at one input. -/
def opcodeOperandsWrong : ChangeSpec := { name := "opcodeOperands", fn := fun _ => fun
  | [d] => { results := [.lit (.bool false)], args := [d] }
  | _ => none }
def OpcodeOperandsWrongFalsely : Prop := opcodeOperandsRow.holds Tryd.pinned (OpenSpec.ofChange opcodeOperandsWrong)

/- THE SECOND FORM. 'bulk': how many values and letters a reading holds, each counted each time it is reached (what is shared counts as often as it is met; a slice's spare places count too). A statement '..UptoSaid' is the law's where the arguments, and the package variables that the reading takes, are together of bulk at most 1048576: NARROWER than '..Said'. Prove '..Said' where nothing that the law and all that it calls make is longer than what came in: it says more and counts as full. Else prove '..UptoSaid'. A law counts once. -/
mutual
def uptoBulk {H : Type} : DataW H → Nat
  | .lit (.string bytes) => bytes.length + 1
  | .lit _ => 1
  | .nil => 1
  | .ptr d => uptoBulk d + 1
  | .slice elems spare => uptoBulkAll elems + uptoBulkAll spare + 1
  | .agg parts => uptoBulkAll parts + 1
  | .iface _ d => uptoBulk d + 1
  | .map entries => uptoBulkEntries entries + 1
  | .held _ => 1
def uptoBulkAll {H : Type} : List (DataW H) → Nat
  | [] => 0
  | d :: r => uptoBulk d + uptoBulkAll r
def uptoBulkEntries {H : Type} : List (Lit × DataW H) → Nat
  | [] => 0
  | x :: r => uptoBulkEntry x + uptoBulkEntries r
def uptoBulkEntry {H : Type} : Lit × DataW H → Nat
  | (.string bytes, d) => bytes.length + uptoBulk d + 1
  | (_, d) => uptoBulk d + 1
 end
def uptoSmall : (H : Type) → List (DataW H) → Bool := fun _ ds => decide (uptoBulkAll ds ≤ 1048576)
def OpenSpec.upto (s : _root_.Go.ChangeSpec) : _root_.Go.OpenSpec := { _root_.Go.OpenSpec.ofChange s with cond := some uptoSmall }

/-- 'regcertlaw05.OpcodeMatchesReference', WHERE WHAT IT READS IS OF BULK AT MOST 1048576: true; the input reads as it did. -/
def opcodeMatchesReferenceUptoRow : OpenClaim := { program := "ytlckmihmegnajaadoor", sum := "2e84714e43a47a830e60579c32dfa4f7fb902e848bb31b39b4d9ba89ea0a5049", func := "regcert/regcertlaw05.OpcodeMatchesReference", spec := "opcodeMatchesReference", named := ["regcert/opcode.names"], apart := false, laid := [("regcert/opcode.names", laid_regcert_opcode_names)], narrowed := true }
def OpcodeMatchesReferenceUptoSaid : Prop := opcodeMatchesReferenceUptoRow.holds Tryd.pinned (OpenSpec.upto opcodeMatchesReferenceSpec)

/-- 'regcertlaw05.OpcodeNames', WHERE WHAT IT READS IS OF BULK AT MOST 1048576: true; the input reads as it did. -/
def opcodeNamesUptoRow : OpenClaim := { program := "ytlckmihmegnajaadoor", sum := "2e84714e43a47a830e60579c32dfa4f7fb902e848bb31b39b4d9ba89ea0a5049", func := "regcert/regcertlaw05.OpcodeNames", spec := "opcodeNames", named := ["regcert/opcode.names"], apart := false, laid := [("regcert/opcode.names", laid_regcert_opcode_names)], narrowed := true }
def OpcodeNamesUptoSaid : Prop := opcodeNamesUptoRow.holds Tryd.pinned (OpenSpec.upto opcodeNamesSpec)

/-- 'regcertlaw05.OpcodeOperands', WHERE WHAT IT READS IS OF BULK AT MOST 1048576: true; the input reads as it did. -/
def opcodeOperandsUptoRow : OpenClaim := { program := "ytlckmihmegnajaadoor", sum := "2e84714e43a47a830e60579c32dfa4f7fb902e848bb31b39b4d9ba89ea0a5049", func := "regcert/regcertlaw05.OpcodeOperands", spec := "opcodeOperands", named := ["regcert/opcode.names"], apart := false, laid := [("regcert/opcode.names", laid_regcert_opcode_names)], narrowed := true }
def OpcodeOperandsUptoSaid : Prop := opcodeOperandsUptoRow.holds Tryd.pinned (OpenSpec.upto opcodeOperandsSpec)

end Rows
end Go.Proofs.YtlckmihmegnajaaDoor
