/-
  DERIVED. GIVEN WITH THE SEED: THE CARDS: each row of YtmjikfeaopmejaaGreatDoorRows.lean that lists a variable, with what it lists TIED to the program's text (the seventh form; the later family's looks); each row that meets fmt, with fmt's text TOLD by the authors' own Lean function (tested against real Go, not proved from fmt's source: count such statements apart). THE CARD IS WHAT COUNTS. Prove the row's statement (the work); the ties are given (YtmjikfeaopmejaaGreatDoorTie.lean); close each card by the builder's one call (the guide's Derived/Test/ToyasCard.lean, 'card_holds'). Laid BY PROGRAM, IN A SANDBOX (cutbox-door.mjs). By AI agents, Wed Nov 11 2026. No macro, syntax, notation, axiom, sorry.
-/
import Derived.Test.YtmjikfeaopmejaaGreatDoorRows
import GoSem.ClaimSeven
namespace Go.Proofs.YtmjikfeaopmejaaGreatDoor
namespace Rows

/-- THE TIED CARD OF 'cubbylaw09.BodyWrites'. -/
def bodyWritesCard : Claim7 := { stood := { row := bodyWritesRow, standIns := [], harness := (true, "aae7564dc321ab846e2fab019c1cc8b8c89ea741ba07885fc74d8e7d3fbfa724"), looks := false }, kinds := [], alts := [], laidByText := true, laidKinds := [.data, .data, .data, .data, .pinned, .pinned], laidTests := true, laidLooks := .later }
def BodyWritesCardSaid : Prop := Claim7.holds Tryz.pinned (.plain (OpenSpec.ofChange bodyWritesSpec)) bodyWritesCard

/-- THE TIED CARD OF 'cubbylaw10.LogReads'. -/
def logReadsCard : Claim7 := { stood := { row := logReadsRow, standIns := [], harness := (true, "aae7564dc321ab846e2fab019c1cc8b8c89ea741ba07885fc74d8e7d3fbfa724"), looks := false }, kinds := [], alts := [], laidByText := true, laidKinds := [.data, .data, .data, .data, .pinned, .pinned], laidTests := true, laidLooks := .later }
def LogReadsCardSaid : Prop := Claim7.holds Tryz.pinned (.plain (OpenSpec.ofChange logReadsSpec)) logReadsCard

/-- THE TIED CARD OF 'cubbylaw10.LogGrows'. -/
def logGrowsCard : Claim7 := { stood := { row := logGrowsRow, standIns := [], harness := (true, "aae7564dc321ab846e2fab019c1cc8b8c89ea741ba07885fc74d8e7d3fbfa724"), looks := false }, kinds := [], alts := [], laidByText := true, laidKinds := [.data, .data, .data, .data, .pinned, .pinned], laidTests := true, laidLooks := .later }
def LogGrowsCardSaid : Prop := Claim7.holds Tryz.pinned (.plain (OpenSpec.ofChange logGrowsSpec)) logGrowsCard

/-- THE TIED CARD OF 'cubbylaw10.LogBack'. -/
def logBackCard : Claim7 := { stood := { row := logBackRow, standIns := [], harness := (true, "aae7564dc321ab846e2fab019c1cc8b8c89ea741ba07885fc74d8e7d3fbfa724"), looks := false }, kinds := [], alts := [], laidByText := true, laidKinds := [.data, .data, .data, .data, .pinned, .pinned], laidTests := true, laidLooks := .later }
def LogBackCardSaid : Prop := Claim7.holds Tryz.pinned (.plain (OpenSpec.ofChange logBackSpec)) logBackCard

/-- THE TIED CARD OF 'cubbylaw11.IndexOf'. -/
def indexOfCard : Claim7 := { stood := { row := indexOfRow, standIns := [], harness := (true, "aae7564dc321ab846e2fab019c1cc8b8c89ea741ba07885fc74d8e7d3fbfa724"), looks := false }, kinds := [], alts := [], laidByText := true, laidKinds := [.data, .data, .data, .data, .pinned, .pinned], laidTests := true, laidLooks := .later }
def IndexOfCardSaid : Prop := Claim7.holds Tryz.pinned (.plain (OpenSpec.ofChange indexOfSpec)) indexOfCard

/-- THE SECOND FORM's CARD OF 'cubbylaw09.BodyWrites'. -/
def bodyWritesUptoCard : Claim7 := { stood := { row := bodyWritesUptoRow, standIns := [], harness := (true, "aae7564dc321ab846e2fab019c1cc8b8c89ea741ba07885fc74d8e7d3fbfa724"), looks := false }, kinds := [], alts := [], laidByText := true, laidKinds := [.data, .data, .data, .data, .pinned, .pinned], laidTests := true, laidLooks := .later }
def BodyWritesUptoCardSaid : Prop := Claim7.holds Tryz.pinned (.plain (OpenSpec.upto bodyWritesSpec)) bodyWritesUptoCard

/-- THE SECOND FORM's CARD OF 'cubbylaw10.LogReads'. -/
def logReadsUptoCard : Claim7 := { stood := { row := logReadsUptoRow, standIns := [], harness := (true, "aae7564dc321ab846e2fab019c1cc8b8c89ea741ba07885fc74d8e7d3fbfa724"), looks := false }, kinds := [], alts := [], laidByText := true, laidKinds := [.data, .data, .data, .data, .pinned, .pinned], laidTests := true, laidLooks := .later }
def LogReadsUptoCardSaid : Prop := Claim7.holds Tryz.pinned (.plain (OpenSpec.upto logReadsSpec)) logReadsUptoCard

/-- THE SECOND FORM's CARD OF 'cubbylaw10.LogGrows'. -/
def logGrowsUptoCard : Claim7 := { stood := { row := logGrowsUptoRow, standIns := [], harness := (true, "aae7564dc321ab846e2fab019c1cc8b8c89ea741ba07885fc74d8e7d3fbfa724"), looks := false }, kinds := [], alts := [], laidByText := true, laidKinds := [.data, .data, .data, .data, .pinned, .pinned], laidTests := true, laidLooks := .later }
def LogGrowsUptoCardSaid : Prop := Claim7.holds Tryz.pinned (.plain (OpenSpec.upto logGrowsSpec)) logGrowsUptoCard

/-- THE SECOND FORM's CARD OF 'cubbylaw10.LogBack'. -/
def logBackUptoCard : Claim7 := { stood := { row := logBackUptoRow, standIns := [], harness := (true, "aae7564dc321ab846e2fab019c1cc8b8c89ea741ba07885fc74d8e7d3fbfa724"), looks := false }, kinds := [], alts := [], laidByText := true, laidKinds := [.data, .data, .data, .data, .pinned, .pinned], laidTests := true, laidLooks := .later }
def LogBackUptoCardSaid : Prop := Claim7.holds Tryz.pinned (.plain (OpenSpec.upto logBackSpec)) logBackUptoCard

/-- THE SECOND FORM's CARD OF 'cubbylaw11.IndexOf'. -/
def indexOfUptoCard : Claim7 := { stood := { row := indexOfUptoRow, standIns := [], harness := (true, "aae7564dc321ab846e2fab019c1cc8b8c89ea741ba07885fc74d8e7d3fbfa724"), looks := false }, kinds := [], alts := [], laidByText := true, laidKinds := [.data, .data, .data, .data, .pinned, .pinned], laidTests := true, laidLooks := .later }
def IndexOfUptoCardSaid : Prop := Claim7.holds Tryz.pinned (.plain (OpenSpec.upto indexOfSpec)) indexOfUptoCard
end Rows
end Go.Proofs.YtmjikfeaopmejaaGreatDoor
