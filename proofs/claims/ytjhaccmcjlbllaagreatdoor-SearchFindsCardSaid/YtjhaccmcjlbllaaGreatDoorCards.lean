/-
  DERIVED. GIVEN WITH THE SEED: THE CARDS: each row of YtjhaccmcjlbllaaGreatDoorRows.lean that lists a variable, with what it lists TIED to the program's text (the seventh form; the later family's looks); each row that meets fmt, with fmt's text TOLD by the authors' own Lean function (tested against real Go, not proved from fmt's source: count such statements apart). THE CARD IS WHAT COUNTS. Prove the row's statement (the work); the ties are given (YtjhaccmcjlbllaaGreatDoorTie.lean); close each card by the builder's one call (the guide's Derived/Test/ToyasCard.lean, 'card_holds'). Laid BY PROGRAM, IN A SANDBOX (cutbox-door.mjs). By AI agents, Wed Nov 11 2026. No macro, syntax, notation, axiom, sorry.
-/
import Derived.Test.YtjhaccmcjlbllaaGreatDoorRows
import GoSem.ClaimSeven
namespace Go.Proofs.YtjhaccmcjlbllaaGreatDoor
namespace Rows

/-- THE TIED CARD OF 'cubbylaw18.FetchPrints'. -/
def fetchPrintsCard : Claim7 := { stood := { row := fetchPrintsRow, standIns := [], harness := (true, "764a853d4bf71bdf863768d2935781d0e0df4713e8a9a4b3fb8cf43a3b0630ca"), looks := true }, kinds := [], alts := [], laidByText := true, laidKinds := [.data, .data, .data, .data, .pinned], laidTests := true, laidLooks := .later }
def FetchPrintsCardSaid : Prop := Claim7.holds Tryz.pinned (.plain (OpenSpec.ofChange fetchPrintsSpec)) fetchPrintsCard

/-- THE TIED CARD OF 'cubbylaw17.SearchFinds'. -/
def searchFindsCard : Claim7 := { stood := { row := searchFindsRow, standIns := [], harness := (true, "764a853d4bf71bdf863768d2935781d0e0df4713e8a9a4b3fb8cf43a3b0630ca"), looks := true }, kinds := [], alts := [], laidByText := true, laidKinds := [.data, .data, .data, .data, .sentinel, .sentinel, .pinned], laidTests := true, laidLooks := .later }
def SearchFindsCardSaid : Prop := Claim7.holds Tryz.pinned (.plain (OpenSpec.ofChange searchFindsSpec)) searchFindsCard

/-- THE TIED CARD OF 'cubbylaw17.SearchNone'. -/
def searchNoneCard : Claim7 := { stood := { row := searchNoneRow, standIns := [], harness := (true, "764a853d4bf71bdf863768d2935781d0e0df4713e8a9a4b3fb8cf43a3b0630ca"), looks := true }, kinds := [], alts := [], laidByText := true, laidKinds := [.data, .data, .data, .data, .sentinel, .sentinel, .pinned], laidTests := true, laidLooks := .later }
def SearchNoneCardSaid : Prop := Claim7.holds Tryz.pinned (.plain (OpenSpec.ofChange searchNoneSpec)) searchNoneCard

/-- THE TIED CARD OF 'cubbylaw17.SearchDeep'. -/
def searchDeepCard : Claim7 := { stood := { row := searchDeepRow, standIns := [], harness := (true, "764a853d4bf71bdf863768d2935781d0e0df4713e8a9a4b3fb8cf43a3b0630ca"), looks := true }, kinds := [], alts := [], laidByText := true, laidKinds := [.data, .data, .data, .data, .sentinel, .sentinel, .pinned], laidTests := true, laidLooks := .later }
def SearchDeepCardSaid : Prop := Claim7.holds Tryz.pinned (.plain (OpenSpec.ofChange searchDeepSpec)) searchDeepCard

/-- THE TIED CARD OF 'cubbylaw16.ParseTags'. -/
def parseTagsCard : Claim7 := { stood := { row := parseTagsRow, standIns := [], harness := (true, "764a853d4bf71bdf863768d2935781d0e0df4713e8a9a4b3fb8cf43a3b0630ca"), looks := true }, kinds := [], alts := [], laidByText := true, laidKinds := [.data, .data, .data, .data, .sentinel, .sentinel, .pinned, .pinned], laidTests := true, laidLooks := .later }
def ParseTagsCardSaid : Prop := Claim7.holds Tryz.pinned (.plain (OpenSpec.ofChange parseTagsSpec)) parseTagsCard

/-- THE SECOND FORM's CARD OF 'cubbylaw18.FetchPrints'. -/
def fetchPrintsUptoCard : Claim7 := { stood := { row := fetchPrintsUptoRow, standIns := [], harness := (true, "764a853d4bf71bdf863768d2935781d0e0df4713e8a9a4b3fb8cf43a3b0630ca"), looks := true }, kinds := [], alts := [], laidByText := true, laidKinds := [.data, .data, .data, .data, .pinned], laidTests := true, laidLooks := .later }
def FetchPrintsUptoCardSaid : Prop := Claim7.holds Tryz.pinned (.plain (OpenSpec.upto fetchPrintsSpec)) fetchPrintsUptoCard

/-- THE SECOND FORM's CARD OF 'cubbylaw17.SearchFinds'. -/
def searchFindsUptoCard : Claim7 := { stood := { row := searchFindsUptoRow, standIns := [], harness := (true, "764a853d4bf71bdf863768d2935781d0e0df4713e8a9a4b3fb8cf43a3b0630ca"), looks := true }, kinds := [], alts := [], laidByText := true, laidKinds := [.data, .data, .data, .data, .sentinel, .sentinel, .pinned], laidTests := true, laidLooks := .later }
def SearchFindsUptoCardSaid : Prop := Claim7.holds Tryz.pinned (.plain (OpenSpec.upto searchFindsSpec)) searchFindsUptoCard

/-- THE SECOND FORM's CARD OF 'cubbylaw17.SearchNone'. -/
def searchNoneUptoCard : Claim7 := { stood := { row := searchNoneUptoRow, standIns := [], harness := (true, "764a853d4bf71bdf863768d2935781d0e0df4713e8a9a4b3fb8cf43a3b0630ca"), looks := true }, kinds := [], alts := [], laidByText := true, laidKinds := [.data, .data, .data, .data, .sentinel, .sentinel, .pinned], laidTests := true, laidLooks := .later }
def SearchNoneUptoCardSaid : Prop := Claim7.holds Tryz.pinned (.plain (OpenSpec.upto searchNoneSpec)) searchNoneUptoCard

/-- THE SECOND FORM's CARD OF 'cubbylaw17.SearchDeep'. -/
def searchDeepUptoCard : Claim7 := { stood := { row := searchDeepUptoRow, standIns := [], harness := (true, "764a853d4bf71bdf863768d2935781d0e0df4713e8a9a4b3fb8cf43a3b0630ca"), looks := true }, kinds := [], alts := [], laidByText := true, laidKinds := [.data, .data, .data, .data, .sentinel, .sentinel, .pinned], laidTests := true, laidLooks := .later }
def SearchDeepUptoCardSaid : Prop := Claim7.holds Tryz.pinned (.plain (OpenSpec.upto searchDeepSpec)) searchDeepUptoCard

/-- THE SECOND FORM's CARD OF 'cubbylaw16.ParseTags'. -/
def parseTagsUptoCard : Claim7 := { stood := { row := parseTagsUptoRow, standIns := [], harness := (true, "764a853d4bf71bdf863768d2935781d0e0df4713e8a9a4b3fb8cf43a3b0630ca"), looks := true }, kinds := [], alts := [], laidByText := true, laidKinds := [.data, .data, .data, .data, .sentinel, .sentinel, .pinned, .pinned], laidTests := true, laidLooks := .later }
def ParseTagsUptoCardSaid : Prop := Claim7.holds Tryz.pinned (.plain (OpenSpec.upto parseTagsSpec)) parseTagsUptoCard
end Rows
end Go.Proofs.YtjhaccmcjlbllaaGreatDoor
