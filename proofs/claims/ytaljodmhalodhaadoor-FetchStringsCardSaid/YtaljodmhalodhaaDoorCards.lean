/-
  DERIVED. GIVEN WITH THE SEED: THE CARDS: each row of YtaljodmhalodhaaDoorRows.lean that lists a variable, with what it lists TIED to the program's text (the seventh form; the later family's looks); each row that meets fmt, with fmt's text TOLD by the authors' own Lean function (tested against real Go, not proved from fmt's source: count such statements apart). THE CARD IS WHAT COUNTS. Prove the row's statement (the work); the ties are given (YtaljodmhalodhaaDoorTie.lean); close each card by the builder's one call (the guide's Derived/Test/ToyasCard.lean, 'card_holds'). Laid BY PROGRAM, IN A SANDBOX (cutbox-door.mjs). By AI agents, Wed Nov 11 2026. No macro, syntax, notation, axiom, sorry.
-/
import Derived.Test.YtaljodmhalodhaaDoorRows
import GoSem.ClaimSeven
namespace Go.Proofs.YtaljodmhalodhaaDoor
namespace Rows

/-- THE TIED CARD OF 'cubbylaw15.LexFeeds'. -/
def lexFeedsCard : Claim7 := { stood := { row := lexFeedsRow, standIns := [], harness := (true, "6389a197463a2929ae7b264bcfdb055c53c72e40fed1387eefecf4ad719f49c9"), looks := true }, kinds := [], alts := [], laidByText := true, laidKinds := [.data, .data, .data, .data, .sentinel, .sentinel, .pinned], laidTests := true, laidLooks := .later }
def LexFeedsCardSaid : Prop := Claim7.holds Tryd.pinned (.plain (OpenSpec.ofChange lexFeedsSpec)) lexFeedsCard

/-- THE TIED CARD OF 'cubbylaw15.LexBack'. -/
def lexBackCard : Claim7 := { stood := { row := lexBackRow, standIns := [], harness := (true, "6389a197463a2929ae7b264bcfdb055c53c72e40fed1387eefecf4ad719f49c9"), looks := true }, kinds := [], alts := [], laidByText := true, laidKinds := [.data, .data, .data, .data, .sentinel, .sentinel, .pinned], laidTests := true, laidLooks := .later }
def LexBackCardSaid : Prop := Claim7.holds Tryd.pinned (.plain (OpenSpec.ofChange lexBackSpec)) lexBackCard

/-- THE TIED CARD OF 'cubbylaw15.LexTokens'. -/
def lexTokensCard : Claim7 := { stood := { row := lexTokensRow, standIns := [], harness := (true, "6389a197463a2929ae7b264bcfdb055c53c72e40fed1387eefecf4ad719f49c9"), looks := true }, kinds := [], alts := [], laidByText := true, laidKinds := [.data, .data, .data, .data, .sentinel, .sentinel, .pinned], laidTests := true, laidLooks := .later }
def LexTokensCardSaid : Prop := Claim7.holds Tryd.pinned (.plain (OpenSpec.ofChange lexTokensSpec)) lexTokensCard

/-- THE TIED CARD OF 'cubbylaw18.FetchStrings'. -/
def fetchStringsCard : Claim7 := { stood := { row := fetchStringsRow, standIns := [], harness := (true, "6389a197463a2929ae7b264bcfdb055c53c72e40fed1387eefecf4ad719f49c9"), looks := true }, kinds := [], alts := [], laidByText := true, laidKinds := [.data, .data, .data, .data, .sentinel, .sentinel, .pinned], laidTests := true, laidLooks := .later }
def FetchStringsCardSaid : Prop := Claim7.holds Tryd.pinned (.plain (OpenSpec.ofChange fetchStringsSpec)) fetchStringsCard

/-- THE SECOND FORM's CARD OF 'cubbylaw15.LexFeeds'. -/
def lexFeedsUptoCard : Claim7 := { stood := { row := lexFeedsUptoRow, standIns := [], harness := (true, "6389a197463a2929ae7b264bcfdb055c53c72e40fed1387eefecf4ad719f49c9"), looks := true }, kinds := [], alts := [], laidByText := true, laidKinds := [.data, .data, .data, .data, .sentinel, .sentinel, .pinned], laidTests := true, laidLooks := .later }
def LexFeedsUptoCardSaid : Prop := Claim7.holds Tryd.pinned (.plain (OpenSpec.upto lexFeedsSpec)) lexFeedsUptoCard

/-- THE SECOND FORM's CARD OF 'cubbylaw15.LexBack'. -/
def lexBackUptoCard : Claim7 := { stood := { row := lexBackUptoRow, standIns := [], harness := (true, "6389a197463a2929ae7b264bcfdb055c53c72e40fed1387eefecf4ad719f49c9"), looks := true }, kinds := [], alts := [], laidByText := true, laidKinds := [.data, .data, .data, .data, .sentinel, .sentinel, .pinned], laidTests := true, laidLooks := .later }
def LexBackUptoCardSaid : Prop := Claim7.holds Tryd.pinned (.plain (OpenSpec.upto lexBackSpec)) lexBackUptoCard

/-- THE SECOND FORM's CARD OF 'cubbylaw15.LexTokens'. -/
def lexTokensUptoCard : Claim7 := { stood := { row := lexTokensUptoRow, standIns := [], harness := (true, "6389a197463a2929ae7b264bcfdb055c53c72e40fed1387eefecf4ad719f49c9"), looks := true }, kinds := [], alts := [], laidByText := true, laidKinds := [.data, .data, .data, .data, .sentinel, .sentinel, .pinned], laidTests := true, laidLooks := .later }
def LexTokensUptoCardSaid : Prop := Claim7.holds Tryd.pinned (.plain (OpenSpec.upto lexTokensSpec)) lexTokensUptoCard

/-- THE SECOND FORM's CARD OF 'cubbylaw18.FetchStrings'. -/
def fetchStringsUptoCard : Claim7 := { stood := { row := fetchStringsUptoRow, standIns := [], harness := (true, "6389a197463a2929ae7b264bcfdb055c53c72e40fed1387eefecf4ad719f49c9"), looks := true }, kinds := [], alts := [], laidByText := true, laidKinds := [.data, .data, .data, .data, .sentinel, .sentinel, .pinned], laidTests := true, laidLooks := .later }
def FetchStringsUptoCardSaid : Prop := Claim7.holds Tryd.pinned (.plain (OpenSpec.upto fetchStringsSpec)) fetchStringsUptoCard
end Rows
end Go.Proofs.YtaljodmhalodhaaDoor
