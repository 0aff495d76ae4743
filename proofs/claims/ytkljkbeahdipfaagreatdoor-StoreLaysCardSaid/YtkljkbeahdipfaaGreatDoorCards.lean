/-
  DERIVED. GIVEN WITH THE SEED: THE CARDS: each row of YtkljkbeahdipfaaGreatDoorRows.lean that lists a variable, with what it lists TIED to the program's text (the seventh form; the later family's looks); each row that meets fmt, with fmt's text TOLD by the authors' own Lean function (tested against real Go, not proved from fmt's source: count such statements apart). THE CARD IS WHAT COUNTS. Prove the row's statement (the work); the ties are given (YtkljkbeahdipfaaGreatDoorTie.lean); close each card by the builder's one call (the guide's Derived/Test/ToyasCard.lean, 'card_holds'). Laid BY PROGRAM, IN A SANDBOX (cutbox-door.mjs). By AI agents, Wed Nov 11 2026. No macro, syntax, notation, axiom, sorry.
-/
import Derived.Test.YtkljkbeahdipfaaGreatDoorRows
import GoSem.ClaimSeven
namespace Go.Proofs.YtkljkbeahdipfaaGreatDoor
namespace Rows

/-- THE TIED CARD OF 'cubbylaw20.RepairLogs'. -/
def repairLogsCard : Claim7 := { stood := { row := repairLogsRow, standIns := [], harness := (true, "514640c545c03c3016c22faf90196687ade3b3056e816438e52fb02b888bb46a"), looks := true }, kinds := [], alts := [], laidByText := true, laidKinds := [.data, .data, .data, .data, .pinned, .pinned], laidTests := true, laidLooks := .later }
def RepairLogsCardSaid : Prop := Claim7.holds Tryz.pinned (.plain (OpenSpec.ofChange repairLogsSpec)) repairLogsCard

/-- THE TIED CARD OF 'cubbylaw19.StoreLays'. -/
def storeLaysCard : Claim7 := { stood := { row := storeLaysRow, standIns := [], harness := (true, "514640c545c03c3016c22faf90196687ade3b3056e816438e52fb02b888bb46a"), looks := true }, kinds := [], alts := [], laidByText := true, laidKinds := [.data, .data, .data, .data, .sentinel, .sentinel, .pinned, .pinned], laidTests := true, laidLooks := .later }
def StoreLaysCardSaid : Prop := Claim7.holds Tryz.pinned (.plain (OpenSpec.ofChange storeLaysSpec)) storeLaysCard

/-- THE TIED CARD OF 'cubbylaw21.FsckAny'. -/
def fsckAnyCard : Claim7 := { stood := { row := fsckAnyRow, standIns := [], harness := (true, "514640c545c03c3016c22faf90196687ade3b3056e816438e52fb02b888bb46a"), looks := true }, kinds := [], alts := [], laidByText := true, laidKinds := [.data, .data, .data, .data, .sentinel, .sentinel, .pinned, .pinned], laidTests := true, laidLooks := .later }
def FsckAnyCardSaid : Prop := Claim7.holds Tryz.pinned (.plain (OpenSpec.ofChange fsckAnySpec)) fsckAnyCard

/-- THE TIED CARD OF 'cubbylaw19.StorePlays'. -/
def storePlaysCard : Claim7 := { stood := { row := storePlaysRow, standIns := [], harness := (true, "514640c545c03c3016c22faf90196687ade3b3056e816438e52fb02b888bb46a"), looks := true }, kinds := [], alts := [], laidByText := true, laidKinds := [.data, .data, .data, .data, .sentinel, .sentinel, .pinned, .pinned], laidTests := true, laidLooks := .later }
def StorePlaysCardSaid : Prop := Claim7.holds Tryz.pinned (.plain (OpenSpec.ofChange storePlaysSpec)) storePlaysCard

/-- THE TIED CARD OF 'cubbylaw19.StoreFull'. -/
def storeFullCard : Claim7 := { stood := { row := storeFullRow, standIns := [], harness := (true, "514640c545c03c3016c22faf90196687ade3b3056e816438e52fb02b888bb46a"), looks := true }, kinds := [], alts := [], laidByText := true, laidKinds := [.data, .data, .data, .data, .sentinel, .sentinel, .pinned, .pinned], laidTests := true, laidLooks := .later }
def StoreFullCardSaid : Prop := Claim7.holds Tryz.pinned (.plain (OpenSpec.ofChange storeFullSpec)) storeFullCard

/-- THE TIED CARD OF 'cubbylaw19.StoreNil'. -/
def storeNilCard : Claim7 := { stood := { row := storeNilRow, standIns := [], harness := (true, "514640c545c03c3016c22faf90196687ade3b3056e816438e52fb02b888bb46a"), looks := true }, kinds := [], alts := [], laidByText := true, laidKinds := [.data, .data, .data, .data, .sentinel, .sentinel, .pinned, .pinned], laidTests := true, laidLooks := .later }
def StoreNilCardSaid : Prop := Claim7.holds Tryz.pinned (.plain (OpenSpec.ofChange storeNilSpec)) storeNilCard

/-- THE TIED CARD OF 'cubbylaw19.StoreWhole'. -/
def storeWholeCard : Claim7 := { stood := { row := storeWholeRow, standIns := [], harness := (true, "514640c545c03c3016c22faf90196687ade3b3056e816438e52fb02b888bb46a"), looks := true }, kinds := [], alts := [], laidByText := true, laidKinds := [.data, .data, .data, .data, .sentinel, .sentinel, .pinned, .pinned], laidTests := true, laidLooks := .later }
def StoreWholeCardSaid : Prop := Claim7.holds Tryz.pinned (.plain (OpenSpec.ofChange storeWholeSpec)) storeWholeCard

/-- THE TIED CARD OF 'cubbylaw20.RepairMends'. -/
def repairMendsCard : Claim7 := { stood := { row := repairMendsRow, standIns := [], harness := (true, "514640c545c03c3016c22faf90196687ade3b3056e816438e52fb02b888bb46a"), looks := true }, kinds := [], alts := [], laidByText := true, laidKinds := [.data, .data, .data, .data, .sentinel, .sentinel, .pinned, .pinned], laidTests := true, laidLooks := .later }
def RepairMendsCardSaid : Prop := Claim7.holds Tryz.pinned (.plain (OpenSpec.ofChange repairMendsSpec)) repairMendsCard

/-- THE TIED CARD OF 'cubbylaw21.FsckStays'. -/
def fsckStaysCard : Claim7 := { stood := { row := fsckStaysRow, standIns := [], harness := (true, "514640c545c03c3016c22faf90196687ade3b3056e816438e52fb02b888bb46a"), looks := true }, kinds := [], alts := [], laidByText := true, laidKinds := [.data, .data, .data, .data, .sentinel, .sentinel, .pinned, .pinned], laidTests := true, laidLooks := .later }
def FsckStaysCardSaid : Prop := Claim7.holds Tryz.pinned (.plain (OpenSpec.ofChange fsckStaysSpec)) fsckStaysCard

/-- THE TIED CARD OF 'cubbylaw21.FsckHeals'. -/
def fsckHealsCard : Claim7 := { stood := { row := fsckHealsRow, standIns := [], harness := (true, "514640c545c03c3016c22faf90196687ade3b3056e816438e52fb02b888bb46a"), looks := true }, kinds := [], alts := [], laidByText := true, laidKinds := [.data, .data, .data, .data, .sentinel, .sentinel, .pinned, .pinned], laidTests := true, laidLooks := .later }
def FsckHealsCardSaid : Prop := Claim7.holds Tryz.pinned (.plain (OpenSpec.ofChange fsckHealsSpec)) fsckHealsCard

/-- THE TIED CARD OF 'cubbylaw21.FsckCrashes'. -/
def fsckCrashesCard : Claim7 := { stood := { row := fsckCrashesRow, standIns := [], harness := (true, "514640c545c03c3016c22faf90196687ade3b3056e816438e52fb02b888bb46a"), looks := true }, kinds := [], alts := [], laidByText := true, laidKinds := [.data, .data, .data, .data, .sentinel, .sentinel, .pinned, .pinned], laidTests := true, laidLooks := .later }
def FsckCrashesCardSaid : Prop := Claim7.holds Tryz.pinned (.plain (OpenSpec.ofChange fsckCrashesSpec)) fsckCrashesCard

/-- THE SECOND FORM's CARD OF 'cubbylaw20.RepairLogs'. -/
def repairLogsUptoCard : Claim7 := { stood := { row := repairLogsUptoRow, standIns := [], harness := (true, "514640c545c03c3016c22faf90196687ade3b3056e816438e52fb02b888bb46a"), looks := true }, kinds := [], alts := [], laidByText := true, laidKinds := [.data, .data, .data, .data, .pinned, .pinned], laidTests := true, laidLooks := .later }
def RepairLogsUptoCardSaid : Prop := Claim7.holds Tryz.pinned (.plain (OpenSpec.upto repairLogsSpec)) repairLogsUptoCard

/-- THE SECOND FORM's CARD OF 'cubbylaw19.StoreLays'. -/
def storeLaysUptoCard : Claim7 := { stood := { row := storeLaysUptoRow, standIns := [], harness := (true, "514640c545c03c3016c22faf90196687ade3b3056e816438e52fb02b888bb46a"), looks := true }, kinds := [], alts := [], laidByText := true, laidKinds := [.data, .data, .data, .data, .sentinel, .sentinel, .pinned, .pinned], laidTests := true, laidLooks := .later }
def StoreLaysUptoCardSaid : Prop := Claim7.holds Tryz.pinned (.plain (OpenSpec.upto storeLaysSpec)) storeLaysUptoCard

/-- THE SECOND FORM's CARD OF 'cubbylaw21.FsckAny'. -/
def fsckAnyUptoCard : Claim7 := { stood := { row := fsckAnyUptoRow, standIns := [], harness := (true, "514640c545c03c3016c22faf90196687ade3b3056e816438e52fb02b888bb46a"), looks := true }, kinds := [], alts := [], laidByText := true, laidKinds := [.data, .data, .data, .data, .sentinel, .sentinel, .pinned, .pinned], laidTests := true, laidLooks := .later }
def FsckAnyUptoCardSaid : Prop := Claim7.holds Tryz.pinned (.plain (OpenSpec.upto fsckAnySpec)) fsckAnyUptoCard

/-- THE SECOND FORM's CARD OF 'cubbylaw19.StorePlays'. -/
def storePlaysUptoCard : Claim7 := { stood := { row := storePlaysUptoRow, standIns := [], harness := (true, "514640c545c03c3016c22faf90196687ade3b3056e816438e52fb02b888bb46a"), looks := true }, kinds := [], alts := [], laidByText := true, laidKinds := [.data, .data, .data, .data, .sentinel, .sentinel, .pinned, .pinned], laidTests := true, laidLooks := .later }
def StorePlaysUptoCardSaid : Prop := Claim7.holds Tryz.pinned (.plain (OpenSpec.upto storePlaysSpec)) storePlaysUptoCard

/-- THE SECOND FORM's CARD OF 'cubbylaw19.StoreFull'. -/
def storeFullUptoCard : Claim7 := { stood := { row := storeFullUptoRow, standIns := [], harness := (true, "514640c545c03c3016c22faf90196687ade3b3056e816438e52fb02b888bb46a"), looks := true }, kinds := [], alts := [], laidByText := true, laidKinds := [.data, .data, .data, .data, .sentinel, .sentinel, .pinned, .pinned], laidTests := true, laidLooks := .later }
def StoreFullUptoCardSaid : Prop := Claim7.holds Tryz.pinned (.plain (OpenSpec.upto storeFullSpec)) storeFullUptoCard

/-- THE SECOND FORM's CARD OF 'cubbylaw19.StoreNil'. -/
def storeNilUptoCard : Claim7 := { stood := { row := storeNilUptoRow, standIns := [], harness := (true, "514640c545c03c3016c22faf90196687ade3b3056e816438e52fb02b888bb46a"), looks := true }, kinds := [], alts := [], laidByText := true, laidKinds := [.data, .data, .data, .data, .sentinel, .sentinel, .pinned, .pinned], laidTests := true, laidLooks := .later }
def StoreNilUptoCardSaid : Prop := Claim7.holds Tryz.pinned (.plain (OpenSpec.upto storeNilSpec)) storeNilUptoCard

/-- THE SECOND FORM's CARD OF 'cubbylaw19.StoreWhole'. -/
def storeWholeUptoCard : Claim7 := { stood := { row := storeWholeUptoRow, standIns := [], harness := (true, "514640c545c03c3016c22faf90196687ade3b3056e816438e52fb02b888bb46a"), looks := true }, kinds := [], alts := [], laidByText := true, laidKinds := [.data, .data, .data, .data, .sentinel, .sentinel, .pinned, .pinned], laidTests := true, laidLooks := .later }
def StoreWholeUptoCardSaid : Prop := Claim7.holds Tryz.pinned (.plain (OpenSpec.upto storeWholeSpec)) storeWholeUptoCard

/-- THE SECOND FORM's CARD OF 'cubbylaw20.RepairMends'. -/
def repairMendsUptoCard : Claim7 := { stood := { row := repairMendsUptoRow, standIns := [], harness := (true, "514640c545c03c3016c22faf90196687ade3b3056e816438e52fb02b888bb46a"), looks := true }, kinds := [], alts := [], laidByText := true, laidKinds := [.data, .data, .data, .data, .sentinel, .sentinel, .pinned, .pinned], laidTests := true, laidLooks := .later }
def RepairMendsUptoCardSaid : Prop := Claim7.holds Tryz.pinned (.plain (OpenSpec.upto repairMendsSpec)) repairMendsUptoCard

/-- THE SECOND FORM's CARD OF 'cubbylaw21.FsckStays'. -/
def fsckStaysUptoCard : Claim7 := { stood := { row := fsckStaysUptoRow, standIns := [], harness := (true, "514640c545c03c3016c22faf90196687ade3b3056e816438e52fb02b888bb46a"), looks := true }, kinds := [], alts := [], laidByText := true, laidKinds := [.data, .data, .data, .data, .sentinel, .sentinel, .pinned, .pinned], laidTests := true, laidLooks := .later }
def FsckStaysUptoCardSaid : Prop := Claim7.holds Tryz.pinned (.plain (OpenSpec.upto fsckStaysSpec)) fsckStaysUptoCard

/-- THE SECOND FORM's CARD OF 'cubbylaw21.FsckHeals'. -/
def fsckHealsUptoCard : Claim7 := { stood := { row := fsckHealsUptoRow, standIns := [], harness := (true, "514640c545c03c3016c22faf90196687ade3b3056e816438e52fb02b888bb46a"), looks := true }, kinds := [], alts := [], laidByText := true, laidKinds := [.data, .data, .data, .data, .sentinel, .sentinel, .pinned, .pinned], laidTests := true, laidLooks := .later }
def FsckHealsUptoCardSaid : Prop := Claim7.holds Tryz.pinned (.plain (OpenSpec.upto fsckHealsSpec)) fsckHealsUptoCard

/-- THE SECOND FORM's CARD OF 'cubbylaw21.FsckCrashes'. -/
def fsckCrashesUptoCard : Claim7 := { stood := { row := fsckCrashesUptoRow, standIns := [], harness := (true, "514640c545c03c3016c22faf90196687ade3b3056e816438e52fb02b888bb46a"), looks := true }, kinds := [], alts := [], laidByText := true, laidKinds := [.data, .data, .data, .data, .sentinel, .sentinel, .pinned, .pinned], laidTests := true, laidLooks := .later }
def FsckCrashesUptoCardSaid : Prop := Claim7.holds Tryz.pinned (.plain (OpenSpec.upto fsckCrashesSpec)) fsckCrashesUptoCard
end Rows
end Go.Proofs.YtkljkbeahdipfaaGreatDoor
