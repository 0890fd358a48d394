/-
  No cell of these rows narrows 'for every input' (looked for: loops, veiled, ifaces, maps, wideKeys, modest, calm, conditions, laid).
  DERIVED. THE GIVEN ROWS OF THIS SEAT. 9 by the template 'for every input the law returns true; each argument reads behind the call as it read before'; 0 by the template 'total and deterministic' (their statements: YtihnbkoeaaepiaaTotals.lean).
  GIVEN WITH THE SEED: the statements are not yours to turn. If you find one false, say at which input.
  Laid BY PROGRAM, IN A SANDBOX (cutbox-rows.mjs): the forced cells as the released guide's own fill.sh prints them over the translation a5c94b49b1e5f4f7… (all of the seat's roots in one cut). By AI agents, Wed Nov 11 2026. No macro, syntax, notation, axiom, sorry.
-/
import Derived.Test.YtihnbkoeaaepiaaChecked
import GoSem.Claim
import GoSem.ClaimJoined
import GoSem.ClaimMapViews
import Derived.JoinedTies
import Derived.KernelRfl
namespace Go.Proofs.Ytihnbkoeaaepiaa
/- THE CELL 'sum', in the pinned program and in every row, IS THE sha256 OF THE DUMP (.gsa) THAT YtihnbkoeaaepiaaProg.lean LOADS. Nothing in Lean hashes anything: it is a label: what it is worth is what the hold of that sum in a sandbox is worth. -/
noncomputable def Try.pinned : Pinned := { name := "ytihnbkoeaaepiaa", sum := "a5c94b49b1e5f4f7122e31c088a75926f49a416d0356686f52b8935a9c9c8a04", checked := Try.checked }
namespace Rows
def none {H : Type} : Left H := { results := [], args := [] }

/-- 'regcertlaw02.CursorCounts': WHATEVER THE INPUT: true; the input reads as it did. -/
def cursorCountsSpec : ChangeSpec := { name := "cursorCounts", fn := fun _ => fun
  | [d1, d2, d3] => { results := [.lit (.bool true)], args := [d1, d2, d3] }
  | _ => none }
def cursorCountsRow : OpenClaim := { program := "ytihnbkoeaaepiaa", sum := "a5c94b49b1e5f4f7122e31c088a75926f49a416d0356686f52b8935a9c9c8a04", func := "regcert/regcertlaw02.CursorCounts", spec := "cursorCounts", unfollowed := true, recurses := true, apart := false }
def CursorCountsSaid : Prop := cursorCountsRow.holds Try.pinned (OpenSpec.ofChange cursorCountsSpec)

/-- ITS FALSE NEIGHBOUR: 'it returns false'. Refute it at one input. -/
def cursorCountsWrong : ChangeSpec := { name := "cursorCounts", fn := fun _ => fun
  | [d1, d2, d3] => { results := [.lit (.bool false)], args := [d1, d2, d3] }
  | _ => none }
def CursorCountsWrongFalsely : Prop := cursorCountsRow.holds Try.pinned (OpenSpec.ofChange cursorCountsWrong)

/-- 'regcertlaw02.CursorKeeps': WHATEVER THE INPUT: true; the input reads as it did. -/
def cursorKeepsSpec : ChangeSpec := { name := "cursorKeeps", fn := fun _ => fun
  | [d1, d2] => { results := [.lit (.bool true)], args := [d1, d2] }
  | _ => none }
def cursorKeepsRow : OpenClaim := { program := "ytihnbkoeaaepiaa", sum := "a5c94b49b1e5f4f7122e31c088a75926f49a416d0356686f52b8935a9c9c8a04", func := "regcert/regcertlaw02.CursorKeeps", spec := "cursorKeeps", unfollowed := true, recurses := true, apart := false }
def CursorKeepsSaid : Prop := cursorKeepsRow.holds Try.pinned (OpenSpec.ofChange cursorKeepsSpec)

/-- ITS FALSE NEIGHBOUR: 'it returns false'. Refute it at one input. -/
def cursorKeepsWrong : ChangeSpec := { name := "cursorKeeps", fn := fun _ => fun
  | [d1, d2] => { results := [.lit (.bool false)], args := [d1, d2] }
  | _ => none }
def CursorKeepsWrongFalsely : Prop := cursorKeepsRow.holds Try.pinned (OpenSpec.ofChange cursorKeepsWrong)

/-- 'regcertlaw02.CursorMatchesReference': WHATEVER THE INPUT: true; the input reads as it did. -/
def cursorMatchesReferenceSpec : ChangeSpec := { name := "cursorMatchesReference", fn := fun _ => fun
  | [d1, d2] => { results := [.lit (.bool true)], args := [d1, d2] }
  | _ => none }
def cursorMatchesReferenceRow : OpenClaim := { program := "ytihnbkoeaaepiaa", sum := "a5c94b49b1e5f4f7122e31c088a75926f49a416d0356686f52b8935a9c9c8a04", func := "regcert/regcertlaw02.CursorMatchesReference", spec := "cursorMatchesReference", unfollowed := true, recurses := true, apart := false }
def CursorMatchesReferenceSaid : Prop := cursorMatchesReferenceRow.holds Try.pinned (OpenSpec.ofChange cursorMatchesReferenceSpec)

/-- ITS FALSE NEIGHBOUR: 'it returns false'. Refute it at one input. -/
def cursorMatchesReferenceWrong : ChangeSpec := { name := "cursorMatchesReference", fn := fun _ => fun
  | [d1, d2] => { results := [.lit (.bool false)], args := [d1, d2] }
  | _ => none }
def CursorMatchesReferenceWrongFalsely : Prop := cursorMatchesReferenceRow.holds Try.pinned (OpenSpec.ofChange cursorMatchesReferenceWrong)

/-- 'regcertlaw02.CursorStops': WHATEVER THE INPUT: true; the input reads as it did. -/
def cursorStopsSpec : ChangeSpec := { name := "cursorStops", fn := fun _ => fun
  | [d1, d2, d3] => { results := [.lit (.bool true)], args := [d1, d2, d3] }
  | _ => none }
def cursorStopsRow : OpenClaim := { program := "ytihnbkoeaaepiaa", sum := "a5c94b49b1e5f4f7122e31c088a75926f49a416d0356686f52b8935a9c9c8a04", func := "regcert/regcertlaw02.CursorStops", spec := "cursorStops", unfollowed := true, recurses := true, apart := false }
def CursorStopsSaid : Prop := cursorStopsRow.holds Try.pinned (OpenSpec.ofChange cursorStopsSpec)

/-- ITS FALSE NEIGHBOUR: 'it returns false'. Refute it at one input. -/
def cursorStopsWrong : ChangeSpec := { name := "cursorStops", fn := fun _ => fun
  | [d1, d2, d3] => { results := [.lit (.bool false)], args := [d1, d2, d3] }
  | _ => none }
def CursorStopsWrongFalsely : Prop := cursorStopsRow.holds Try.pinned (OpenSpec.ofChange cursorStopsWrong)

/-- 'regcertlaw02.CursorReads': WHATEVER THE INPUT: true; the input reads as it did. -/
def cursorReadsSpec : ChangeSpec := { name := "cursorReads", fn := fun _ => fun
  | [d1, d2, d3] => { results := [.lit (.bool true)], args := [d1, d2, d3] }
  | _ => none }
def cursorReadsRow : OpenClaim := { program := "ytihnbkoeaaepiaa", sum := "a5c94b49b1e5f4f7122e31c088a75926f49a416d0356686f52b8935a9c9c8a04", func := "regcert/regcertlaw02.CursorReads", spec := "cursorReads", unfollowed := true, recurses := true, apart := false }
def CursorReadsSaid : Prop := cursorReadsRow.holds Try.pinned (OpenSpec.ofChange cursorReadsSpec)

/-- ITS FALSE NEIGHBOUR: 'it returns false'. Refute it at one input. -/
def cursorReadsWrong : ChangeSpec := { name := "cursorReads", fn := fun _ => fun
  | [d1, d2, d3] => { results := [.lit (.bool false)], args := [d1, d2, d3] }
  | _ => none }
def CursorReadsWrongFalsely : Prop := cursorReadsRow.holds Try.pinned (OpenSpec.ofChange cursorReadsWrong)

/-- 'regcertlaw08.MachineMatchesReference': WHATEVER THE INPUT: true; the input reads as it did. -/
def machineMatchesReferenceSpec : ChangeSpec := { name := "machineMatchesReference", fn := fun _ => fun
  | [d1, d2, d3, d4] => { results := [.lit (.bool true)], args := [d1, d2, d3, d4] }
  | _ => none }
def machineMatchesReferenceRow : OpenClaim := { program := "ytihnbkoeaaepiaa", sum := "a5c94b49b1e5f4f7122e31c088a75926f49a416d0356686f52b8935a9c9c8a04", func := "regcert/regcertlaw08.MachineMatchesReference", spec := "machineMatchesReference", unfollowed := true, recurses := true, apart := false }
def MachineMatchesReferenceSaid : Prop := machineMatchesReferenceRow.holds Try.pinned (OpenSpec.ofChange machineMatchesReferenceSpec)

/-- ITS FALSE NEIGHBOUR: 'it returns false'. Refute it at one input. -/
def machineMatchesReferenceWrong : ChangeSpec := { name := "machineMatchesReference", fn := fun _ => fun
  | [d1, d2, d3, d4] => { results := [.lit (.bool false)], args := [d1, d2, d3, d4] }
  | _ => none }
def MachineMatchesReferenceWrongFalsely : Prop := machineMatchesReferenceRow.holds Try.pinned (OpenSpec.ofChange machineMatchesReferenceWrong)

/-- 'regcertlaw08.MachineCheck': WHATEVER THE INPUT: true; the input reads as it did. -/
def machineCheckSpec : ChangeSpec := { name := "machineCheck", fn := fun _ => fun
  | [d] => { results := [.lit (.bool true)], args := [d] }
  | _ => none }
def machineCheckRow : OpenClaim := { program := "ytihnbkoeaaepiaa", sum := "a5c94b49b1e5f4f7122e31c088a75926f49a416d0356686f52b8935a9c9c8a04", func := "regcert/regcertlaw08.MachineCheck", spec := "machineCheck", unfollowed := true, recurses := true, apart := false }
def MachineCheckSaid : Prop := machineCheckRow.holds Try.pinned (OpenSpec.ofChange machineCheckSpec)

/-- ITS FALSE NEIGHBOUR: 'it returns false'. Refute it at one input. -/
def machineCheckWrong : ChangeSpec := { name := "machineCheck", fn := fun _ => fun
  | [d] => { results := [.lit (.bool false)], args := [d] }
  | _ => none }
def MachineCheckWrongFalsely : Prop := machineCheckRow.holds Try.pinned (OpenSpec.ofChange machineCheckWrong)

/-- 'regcertlaw08.MachineMoves': WHATEVER THE INPUT: true; the input reads as it did. -/
def machineMovesSpec : ChangeSpec := { name := "machineMoves", fn := fun _ => fun
  | [d1, d2, d3, d4] => { results := [.lit (.bool true)], args := [d1, d2, d3, d4] }
  | _ => none }
def machineMovesRow : OpenClaim := { program := "ytihnbkoeaaepiaa", sum := "a5c94b49b1e5f4f7122e31c088a75926f49a416d0356686f52b8935a9c9c8a04", func := "regcert/regcertlaw08.MachineMoves", spec := "machineMoves", unfollowed := true, recurses := true, apart := false }
def MachineMovesSaid : Prop := machineMovesRow.holds Try.pinned (OpenSpec.ofChange machineMovesSpec)

/-- ITS FALSE NEIGHBOUR: 'it returns false'. Refute it at one input. -/
def machineMovesWrong : ChangeSpec := { name := "machineMoves", fn := fun _ => fun
  | [d1, d2, d3, d4] => { results := [.lit (.bool false)], args := [d1, d2, d3, d4] }
  | _ => none }
def MachineMovesWrongFalsely : Prop := machineMovesRow.holds Try.pinned (OpenSpec.ofChange machineMovesWrong)

/-- 'regcertlaw08.MachineRuns': WHATEVER THE INPUT: true; the input reads as it did. -/
def machineRunsSpec : ChangeSpec := { name := "machineRuns", fn := fun _ => fun
  | [d1, d2, d3] => { results := [.lit (.bool true)], args := [d1, d2, d3] }
  | _ => none }
def machineRunsRow : OpenClaim := { program := "ytihnbkoeaaepiaa", sum := "a5c94b49b1e5f4f7122e31c088a75926f49a416d0356686f52b8935a9c9c8a04", func := "regcert/regcertlaw08.MachineRuns", spec := "machineRuns", unfollowed := true, recurses := true, apart := false }
def MachineRunsSaid : Prop := machineRunsRow.holds Try.pinned (OpenSpec.ofChange machineRunsSpec)

/-- ITS FALSE NEIGHBOUR: 'it returns false'. Refute it at one input. -/
def machineRunsWrong : ChangeSpec := { name := "machineRuns", fn := fun _ => fun
  | [d1, d2, d3] => { results := [.lit (.bool false)], args := [d1, d2, d3] }
  | _ => none }
def MachineRunsWrongFalsely : Prop := machineRunsRow.holds Try.pinned (OpenSpec.ofChange machineRunsWrong)

/- THE SECOND FORM. 'bulk': how many values and letters a reading holds, each counted each time it is reached (what is shared counts as often as it is met; a slice's spare places count too). A statement '..UptoSaid' is the law's where the arguments, and the package variables that the reading takes, are together of bulk at most 1048576: NARROWER than '..Said'. Prove '..Said' where nothing that the law and all that it calls make is longer than what came in: it says more and counts as full. Else prove '..UptoSaid'. A law counts once. -/
mutual
def uptoBulk {H : Type} : DataW H → Nat
  | .lit (.string bytes) => bytes.length + 1
  | .lit _ => 1
  | .nil => 1
  | .ptr d => uptoBulk d + 1
  | .slice elems spare => uptoBulkAll elems + uptoBulkAll spare + 1
  | .agg parts => uptoBulkAll parts + 1
  | .iface _ d => uptoBulk d + 1
  | .map entries => uptoBulkEntries entries + 1
  | .held _ => 1
def uptoBulkAll {H : Type} : List (DataW H) → Nat
  | [] => 0
  | d :: r => uptoBulk d + uptoBulkAll r
def uptoBulkEntries {H : Type} : List (Lit × DataW H) → Nat
  | [] => 0
  | x :: r => uptoBulkEntry x + uptoBulkEntries r
def uptoBulkEntry {H : Type} : Lit × DataW H → Nat
  | (.string bytes, d) => bytes.length + uptoBulk d + 1
  | (_, d) => uptoBulk d + 1
 end
def uptoSmall : (H : Type) → List (DataW H) → Bool := fun _ ds => decide (uptoBulkAll ds ≤ 1048576)
def OpenSpec.upto (s : _root_.Go.ChangeSpec) : _root_.Go.OpenSpec := { _root_.Go.OpenSpec.ofChange s with cond := some uptoSmall }

/-- 'regcertlaw02.CursorCounts', WHERE WHAT IT READS IS OF BULK AT MOST 1048576: true; the input reads as it did. -/
def cursorCountsUptoRow : OpenClaim := { program := "ytihnbkoeaaepiaa", sum := "a5c94b49b1e5f4f7122e31c088a75926f49a416d0356686f52b8935a9c9c8a04", func := "regcert/regcertlaw02.CursorCounts", spec := "cursorCounts", unfollowed := true, recurses := true, apart := false, narrowed := true }
def CursorCountsUptoSaid : Prop := cursorCountsUptoRow.holds Try.pinned (OpenSpec.upto cursorCountsSpec)

/-- 'regcertlaw02.CursorKeeps', WHERE WHAT IT READS IS OF BULK AT MOST 1048576: true; the input reads as it did. -/
def cursorKeepsUptoRow : OpenClaim := { program := "ytihnbkoeaaepiaa", sum := "a5c94b49b1e5f4f7122e31c088a75926f49a416d0356686f52b8935a9c9c8a04", func := "regcert/regcertlaw02.CursorKeeps", spec := "cursorKeeps", unfollowed := true, recurses := true, apart := false, narrowed := true }
def CursorKeepsUptoSaid : Prop := cursorKeepsUptoRow.holds Try.pinned (OpenSpec.upto cursorKeepsSpec)

/-- 'regcertlaw02.CursorMatchesReference', WHERE WHAT IT READS IS OF BULK AT MOST 1048576: true; the input reads as it did. -/
def cursorMatchesReferenceUptoRow : OpenClaim := { program := "ytihnbkoeaaepiaa", sum := "a5c94b49b1e5f4f7122e31c088a75926f49a416d0356686f52b8935a9c9c8a04", func := "regcert/regcertlaw02.CursorMatchesReference", spec := "cursorMatchesReference", unfollowed := true, recurses := true, apart := false, narrowed := true }
def CursorMatchesReferenceUptoSaid : Prop := cursorMatchesReferenceUptoRow.holds Try.pinned (OpenSpec.upto cursorMatchesReferenceSpec)

/-- 'regcertlaw02.CursorStops', WHERE WHAT IT READS IS OF BULK AT MOST 1048576: true; the input reads as it did. -/
def cursorStopsUptoRow : OpenClaim := { program := "ytihnbkoeaaepiaa", sum := "a5c94b49b1e5f4f7122e31c088a75926f49a416d0356686f52b8935a9c9c8a04", func := "regcert/regcertlaw02.CursorStops", spec := "cursorStops", unfollowed := true, recurses := true, apart := false, narrowed := true }
def CursorStopsUptoSaid : Prop := cursorStopsUptoRow.holds Try.pinned (OpenSpec.upto cursorStopsSpec)

/-- 'regcertlaw02.CursorReads', WHERE WHAT IT READS IS OF BULK AT MOST 1048576: true; the input reads as it did. -/
def cursorReadsUptoRow : OpenClaim := { program := "ytihnbkoeaaepiaa", sum := "a5c94b49b1e5f4f7122e31c088a75926f49a416d0356686f52b8935a9c9c8a04", func := "regcert/regcertlaw02.CursorReads", spec := "cursorReads", unfollowed := true, recurses := true, apart := false, narrowed := true }
def CursorReadsUptoSaid : Prop := cursorReadsUptoRow.holds Try.pinned (OpenSpec.upto cursorReadsSpec)

/-- 'regcertlaw08.MachineMatchesReference', WHERE WHAT IT READS IS OF BULK AT MOST 1048576: true; the input reads as it did. -/
def machineMatchesReferenceUptoRow : OpenClaim := { program := "ytihnbkoeaaepiaa", sum := "a5c94b49b1e5f4f7122e31c088a75926f49a416d0356686f52b8935a9c9c8a04", func := "regcert/regcertlaw08.MachineMatchesReference", spec := "machineMatchesReference", unfollowed := true, recurses := true, apart := false, narrowed := true }
def MachineMatchesReferenceUptoSaid : Prop := machineMatchesReferenceUptoRow.holds Try.pinned (OpenSpec.upto machineMatchesReferenceSpec)

/-- 'regcertlaw08.MachineCheck', WHERE WHAT IT READS IS OF BULK AT MOST 1048576: true; the input reads as it did. -/
def machineCheckUptoRow : OpenClaim := { program := "ytihnbkoeaaepiaa", sum := "a5c94b49b1e5f4f7122e31c088a75926f49a416d0356686f52b8935a9c9c8a04", func := "regcert/regcertlaw08.MachineCheck", spec := "machineCheck", unfollowed := true, recurses := true, apart := false, narrowed := true }
def MachineCheckUptoSaid : Prop := machineCheckUptoRow.holds Try.pinned (OpenSpec.upto machineCheckSpec)

/-- 'regcertlaw08.MachineMoves', WHERE WHAT IT READS IS OF BULK AT MOST 1048576: true; the input reads as it did. -/
def machineMovesUptoRow : OpenClaim := { program := "ytihnbkoeaaepiaa", sum := "a5c94b49b1e5f4f7122e31c088a75926f49a416d0356686f52b8935a9c9c8a04", func := "regcert/regcertlaw08.MachineMoves", spec := "machineMoves", unfollowed := true, recurses := true, apart := false, narrowed := true }
def MachineMovesUptoSaid : Prop := machineMovesUptoRow.holds Try.pinned (OpenSpec.upto machineMovesSpec)

/-- 'regcertlaw08.MachineRuns', WHERE WHAT IT READS IS OF BULK AT MOST 1048576: true; the input reads as it did. -/
def machineRunsUptoRow : OpenClaim := { program := "ytihnbkoeaaepiaa", sum := "a5c94b49b1e5f4f7122e31c088a75926f49a416d0356686f52b8935a9c9c8a04", func := "regcert/regcertlaw08.MachineRuns", spec := "machineRuns", unfollowed := true, recurses := true, apart := false, narrowed := true }
def MachineRunsUptoSaid : Prop := machineRunsUptoRow.holds Try.pinned (OpenSpec.upto machineRunsSpec)

end Rows
end Go.Proofs.Ytihnbkoeaaepiaa
