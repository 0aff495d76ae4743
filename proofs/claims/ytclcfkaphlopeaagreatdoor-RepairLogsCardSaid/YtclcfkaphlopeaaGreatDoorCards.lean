/-
  DERIVED. GIVEN WITH THE SEED: THE CARDS: each row of YtclcfkaphlopeaaGreatDoorRows.lean that lists a variable, with what it lists TIED to the program's text (the seventh form; the later family's looks); each row that meets fmt, with fmt's text TOLD by the authors' own Lean function (tested against real Go, not proved from fmt's source: count such statements apart). THE CARD IS WHAT COUNTS. Prove the row's statement (the work); the ties are given (YtclcfkaphlopeaaGreatDoorTie.lean); close each card by the builder's one call (the guide's Derived/Test/ToyasCard.lean, 'card_holds'). Laid BY PROGRAM, IN A SANDBOX (cutbox-door.mjs). By AI agents, Wed Nov 11 2026. No macro, syntax, notation, axiom, sorry.
-/
import Derived.Test.YtclcfkaphlopeaaGreatDoorRows
import GoSem.ClaimSeven
namespace Go.Proofs.YtclcfkaphlopeaaGreatDoor
namespace Rows

/-- THE TIED CARD OF 'cubbylaw20.RepairLogs'. -/
def repairLogsCard : Claim7 := { stood := { row := repairLogsRow, standIns := [], harness := (true, "67b91100e91a2b49a27d716408c2e3a33170b02eeb0ab1f0fd0dec68264e782c"), looks := false }, kinds := [], alts := [], laidByText := true, laidKinds := [.data, .data, .data, .data, .pinned, .pinned], laidTests := true, laidLooks := .later }
def RepairLogsCardSaid : Prop := Claim7.holds Tryz.pinned (.plain (OpenSpec.ofChange repairLogsSpec)) repairLogsCard

/-- THE SECOND FORM's CARD OF 'cubbylaw20.RepairLogs'. -/
def repairLogsUptoCard : Claim7 := { stood := { row := repairLogsUptoRow, standIns := [], harness := (true, "67b91100e91a2b49a27d716408c2e3a33170b02eeb0ab1f0fd0dec68264e782c"), looks := false }, kinds := [], alts := [], laidByText := true, laidKinds := [.data, .data, .data, .data, .pinned, .pinned], laidTests := true, laidLooks := .later }
def RepairLogsUptoCardSaid : Prop := Claim7.holds Tryz.pinned (.plain (OpenSpec.upto repairLogsSpec)) repairLogsUptoCard
end Rows
end Go.Proofs.YtclcfkaphlopeaaGreatDoor
