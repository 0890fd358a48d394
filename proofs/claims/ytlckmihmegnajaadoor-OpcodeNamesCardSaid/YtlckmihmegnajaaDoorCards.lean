/-
  DERIVED. GIVEN WITH THE SEED: THE CARDS: each row of YtlckmihmegnajaaDoorRows.lean that lists a variable, with what it lists TIED to the program's text (the seventh form; the later family's looks); each row that meets fmt, with fmt's text TOLD by the authors' own Lean function (tested against real Go, not proved from fmt's source: count such statements apart). THE CARD IS WHAT COUNTS. Prove the row's statement (the work); the ties are given (YtlckmihmegnajaaDoorTie.lean); close each card by the builder's one call (the guide's Derived/Test/ToyasCard.lean, 'card_holds'). Laid BY PROGRAM, IN A SANDBOX (cutbox-door.mjs). By AI agents, Wed Nov 11 2026. No macro, syntax, notation, axiom, sorry.
-/
import Derived.Test.YtlckmihmegnajaaDoorRows
import GoSem.ClaimSeven
namespace Go.Proofs.YtlckmihmegnajaaDoor
namespace Rows

/-- THE TIED CARD OF 'regcertlaw05.OpcodeMatchesReference'. -/
def opcodeMatchesReferenceCard : Claim7 := { stood := { row := opcodeMatchesReferenceRow, standIns := [], harness := (true, "2bb75ad0689590b65c91afb85e95f65d4e5f5ffef319b0825d1238b65fafaddc"), looks := false }, kinds := [], alts := [], laidByText := true, laidKinds := [.data], laidTests := true, laidLooks := .later }
def OpcodeMatchesReferenceCardSaid : Prop := Claim7.holds Tryd.pinned (.plain (OpenSpec.ofChange opcodeMatchesReferenceSpec)) opcodeMatchesReferenceCard

/-- THE TIED CARD OF 'regcertlaw05.OpcodeNames'. -/
def opcodeNamesCard : Claim7 := { stood := { row := opcodeNamesRow, standIns := [], harness := (true, "2bb75ad0689590b65c91afb85e95f65d4e5f5ffef319b0825d1238b65fafaddc"), looks := false }, kinds := [], alts := [], laidByText := true, laidKinds := [.data], laidTests := true, laidLooks := .later }
def OpcodeNamesCardSaid : Prop := Claim7.holds Tryd.pinned (.plain (OpenSpec.ofChange opcodeNamesSpec)) opcodeNamesCard

/-- THE TIED CARD OF 'regcertlaw05.OpcodeOperands'. -/
def opcodeOperandsCard : Claim7 := { stood := { row := opcodeOperandsRow, standIns := [], harness := (true, "2bb75ad0689590b65c91afb85e95f65d4e5f5ffef319b0825d1238b65fafaddc"), looks := false }, kinds := [], alts := [], laidByText := true, laidKinds := [.data], laidTests := true, laidLooks := .later }
def OpcodeOperandsCardSaid : Prop := Claim7.holds Tryd.pinned (.plain (OpenSpec.ofChange opcodeOperandsSpec)) opcodeOperandsCard

/-- THE SECOND FORM's CARD OF 'regcertlaw05.OpcodeMatchesReference'. -/
def opcodeMatchesReferenceUptoCard : Claim7 := { stood := { row := opcodeMatchesReferenceUptoRow, standIns := [], harness := (true, "2bb75ad0689590b65c91afb85e95f65d4e5f5ffef319b0825d1238b65fafaddc"), looks := false }, kinds := [], alts := [], laidByText := true, laidKinds := [.data], laidTests := true, laidLooks := .later }
def OpcodeMatchesReferenceUptoCardSaid : Prop := Claim7.holds Tryd.pinned (.plain (OpenSpec.upto opcodeMatchesReferenceSpec)) opcodeMatchesReferenceUptoCard

/-- THE SECOND FORM's CARD OF 'regcertlaw05.OpcodeNames'. -/
def opcodeNamesUptoCard : Claim7 := { stood := { row := opcodeNamesUptoRow, standIns := [], harness := (true, "2bb75ad0689590b65c91afb85e95f65d4e5f5ffef319b0825d1238b65fafaddc"), looks := false }, kinds := [], alts := [], laidByText := true, laidKinds := [.data], laidTests := true, laidLooks := .later }
def OpcodeNamesUptoCardSaid : Prop := Claim7.holds Tryd.pinned (.plain (OpenSpec.upto opcodeNamesSpec)) opcodeNamesUptoCard

/-- THE SECOND FORM's CARD OF 'regcertlaw05.OpcodeOperands'. -/
def opcodeOperandsUptoCard : Claim7 := { stood := { row := opcodeOperandsUptoRow, standIns := [], harness := (true, "2bb75ad0689590b65c91afb85e95f65d4e5f5ffef319b0825d1238b65fafaddc"), looks := false }, kinds := [], alts := [], laidByText := true, laidKinds := [.data], laidTests := true, laidLooks := .later }
def OpcodeOperandsUptoCardSaid : Prop := Claim7.holds Tryd.pinned (.plain (OpenSpec.upto opcodeOperandsSpec)) opcodeOperandsUptoCard
end Rows
end Go.Proofs.YtlckmihmegnajaaDoor
