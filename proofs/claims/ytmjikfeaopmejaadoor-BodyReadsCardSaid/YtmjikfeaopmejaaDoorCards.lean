/-
  DERIVED. GIVEN WITH THE SEED: THE CARDS: each row of YtmjikfeaopmejaaDoorRows.lean that lists a variable, with what it lists TIED to the program's text (the seventh form; the later family's looks); each row that meets fmt, with fmt's text TOLD by the authors' own Lean function (tested against real Go, not proved from fmt's source: count such statements apart). THE CARD IS WHAT COUNTS. Prove the row's statement (the work); the ties are given (YtmjikfeaopmejaaDoorTie.lean); close each card by the builder's one call (the guide's Derived/Test/ToyasCard.lean, 'card_holds'). Laid BY PROGRAM, IN A SANDBOX (cutbox-door.mjs). By AI agents, Wed Nov 11 2026. No macro, syntax, notation, axiom, sorry.
-/
import Derived.Test.YtmjikfeaopmejaaDoorRows
import GoSem.ClaimSeven
namespace Go.Proofs.YtmjikfeaopmejaaDoor
namespace Rows

/-- THE TIED CARD OF 'cubbylaw09.BodyReads'. -/
def bodyReadsCard : Claim7 := { stood := { row := bodyReadsRow, standIns := [], harness := (true, "13c59ce4bd8d218dda35a01986e57b33a9e94d71669465320c2ba0a861308317"), looks := false }, kinds := [], alts := [], laidByText := true, laidKinds := [.data, .data, .data, .data, .pinned, .pinned], laidTests := true, laidLooks := .later }
def BodyReadsCardSaid : Prop := Claim7.holds Tryd.pinned (.plain (OpenSpec.ofChange bodyReadsSpec)) bodyReadsCard

/-- THE SECOND FORM's CARD OF 'cubbylaw09.BodyReads'. -/
def bodyReadsUptoCard : Claim7 := { stood := { row := bodyReadsUptoRow, standIns := [], harness := (true, "13c59ce4bd8d218dda35a01986e57b33a9e94d71669465320c2ba0a861308317"), looks := false }, kinds := [], alts := [], laidByText := true, laidKinds := [.data, .data, .data, .data, .pinned, .pinned], laidTests := true, laidLooks := .later }
def BodyReadsUptoCardSaid : Prop := Claim7.holds Tryd.pinned (.plain (OpenSpec.upto bodyReadsSpec)) bodyReadsUptoCard
end Rows
end Go.Proofs.YtmjikfeaopmejaaDoor
