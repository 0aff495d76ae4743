/-
  DERIVED. GIVEN WITH THE SEED: THE CARDS: each row of YtgjlpgijlicppaaGreatDoorRows.lean that lists a variable, with what it lists TIED to the program's text (the seventh form; the later family's looks); each row that meets fmt, with fmt's text TOLD by the authors' own Lean function (tested against real Go, not proved from fmt's source: count such statements apart). THE CARD IS WHAT COUNTS. Prove the row's statement (the work); the ties are given (YtgjlpgijlicppaaGreatDoorTie.lean); close each card by the builder's one call (the guide's Derived/Test/ToyasCard.lean, 'card_holds'). Laid BY PROGRAM, IN A SANDBOX (cutbox-door.mjs). By AI agents, Wed Nov 11 2026. No macro, syntax, notation, axiom, sorry.
-/
import Derived.Test.YtgjlpgijlicppaaGreatDoorRows
import GoSem.ClaimSeven
namespace Go.Proofs.YtgjlpgijlicppaaGreatDoor
namespace Rows

/-- THE TIED CARD OF 'cubbylaw20.RepairAside'. -/
def repairAsideCard : Claim7 := { stood := { row := repairAsideRow, standIns := [], harness := (true, "ddfff0a1a4175068cf1d5d0433edf29816f2b4c02237c88e890967a6ac8d800c"), looks := false }, kinds := [], alts := [], laidByText := true, laidKinds := [.data, .data, .data, .data, .pinned, .pinned], laidTests := true, laidLooks := .later }
def RepairAsideCardSaid : Prop := Claim7.holds Tryz.pinned (.plain (OpenSpec.ofChange repairAsideSpec)) repairAsideCard

/-- THE SECOND FORM's CARD OF 'cubbylaw20.RepairAside'. -/
def repairAsideUptoCard : Claim7 := { stood := { row := repairAsideUptoRow, standIns := [], harness := (true, "ddfff0a1a4175068cf1d5d0433edf29816f2b4c02237c88e890967a6ac8d800c"), looks := false }, kinds := [], alts := [], laidByText := true, laidKinds := [.data, .data, .data, .data, .pinned, .pinned], laidTests := true, laidLooks := .later }
def RepairAsideUptoCardSaid : Prop := Claim7.holds Tryz.pinned (.plain (OpenSpec.upto repairAsideSpec)) repairAsideUptoCard
end Rows
end Go.Proofs.YtgjlpgijlicppaaGreatDoor
