/-
  DERIVED. GIVEN WITH THE SEED: THE CARDS: each row of YtfnckkmnncdelaaDoorRows.lean that lists a variable, with what it lists TIED to the program's text (the seventh form; the later family's looks); each row that meets fmt, with fmt's text TOLD by the authors' own Lean function (tested against real Go, not proved from fmt's source: count such statements apart). THE CARD IS WHAT COUNTS. Prove the row's statement (the work); the ties are given (YtfnckkmnncdelaaDoorTie.lean); close each card by the builder's one call (the guide's Derived/Test/ToyasCard.lean, 'card_holds'). Laid BY PROGRAM, IN A SANDBOX (cutbox-door.mjs). By AI agents, Wed Nov 11 2026. No macro, syntax, notation, axiom, sorry.
-/
import Derived.Test.YtfnckkmnncdelaaDoorRows
import GoSem.ClaimSeven
namespace Go.Proofs.YtfnckkmnncdelaaDoor
namespace Rows

/-- THE TIED CARD OF 'cubbylaw06.NameLike'. -/
def nameLikeCard : Claim7 := { stood := { row := nameLikeRow, standIns := [], harness := (true, "9fc10067b0a2f8b56fb3953d498b33954404ea86cf222f876ad871affe0e814a"), looks := true }, kinds := [], alts := [], laidByText := true, laidKinds := [.data, .pinned, .pinned], laidTests := true, laidLooks := .later }
def NameLikeCardSaid : Prop := Claim7.holds Tryd.pinned (.plain (OpenSpec.ofChange nameLikeSpec)) nameLikeCard

/-- THE TIED CARD OF 'cubbylaw06.NameSelf'. -/
def nameSelfCard : Claim7 := { stood := { row := nameSelfRow, standIns := [], harness := (true, "9fc10067b0a2f8b56fb3953d498b33954404ea86cf222f876ad871affe0e814a"), looks := true }, kinds := [], alts := [], laidByText := true, laidKinds := [.data, .pinned, .pinned], laidTests := true, laidLooks := .later }
def NameSelfCardSaid : Prop := Claim7.holds Tryd.pinned (.plain (OpenSpec.ofChange nameSelfSpec)) nameSelfCard

/-- THE TIED CARD OF 'cubbylaw06.NameNorms'. -/
def nameNormsCard : Claim7 := { stood := { row := nameNormsRow, standIns := [], harness := (true, "9fc10067b0a2f8b56fb3953d498b33954404ea86cf222f876ad871affe0e814a"), looks := true }, kinds := [], alts := [], laidByText := true, laidKinds := [.data, .pinned, .pinned], laidTests := true, laidLooks := .later }
def NameNormsCardSaid : Prop := Claim7.holds Tryd.pinned (.plain (OpenSpec.ofChange nameNormsSpec)) nameNormsCard

/-- THE TIED CARD OF 'cubbylaw07.DateParses'. -/
def dateParsesCard : Claim7 := { stood := { row := dateParsesRow, standIns := [], harness := (true, "9fc10067b0a2f8b56fb3953d498b33954404ea86cf222f876ad871affe0e814a"), looks := true }, kinds := [], alts := [], laidByText := true, laidKinds := [.data, .data, .data, .data, .pinned, .pinned], laidTests := true, laidLooks := .later }
def DateParsesCardSaid : Prop := Claim7.holds Tryd.pinned (.plain (OpenSpec.ofChange dateParsesSpec)) dateParsesCard

/-- THE TIED CARD OF 'cubbylaw07.DateZones'. -/
def dateZonesCard : Claim7 := { stood := { row := dateZonesRow, standIns := [], harness := (true, "9fc10067b0a2f8b56fb3953d498b33954404ea86cf222f876ad871affe0e814a"), looks := true }, kinds := [], alts := [], laidByText := true, laidKinds := [.data, .data, .data, .data, .pinned, .pinned], laidTests := true, laidLooks := .later }
def DateZonesCardSaid : Prop := Claim7.holds Tryd.pinned (.plain (OpenSpec.ofChange dateZonesSpec)) dateZonesCard

/-- THE TIED CARD OF 'cubbylaw07.DatePrints'. -/
def datePrintsCard : Claim7 := { stood := { row := datePrintsRow, standIns := [], harness := (true, "9fc10067b0a2f8b56fb3953d498b33954404ea86cf222f876ad871affe0e814a"), looks := true }, kinds := [], alts := [], laidByText := true, laidKinds := [.data, .data, .data, .data, .pinned, .pinned], laidTests := true, laidLooks := .later }
def DatePrintsCardSaid : Prop := Claim7.holds Tryd.pinned (.plain (OpenSpec.ofChange datePrintsSpec)) datePrintsCard

/-- THE TIED CARD OF 'cubbylaw13.SeqsetParses'. -/
def seqsetParsesCard : Claim7 := { stood := { row := seqsetParsesRow, standIns := [], harness := (true, "9fc10067b0a2f8b56fb3953d498b33954404ea86cf222f876ad871affe0e814a"), looks := true }, kinds := [], alts := [], laidByText := true, laidKinds := [.data, .data, .data, .data, .sentinel, .sentinel, .pinned], laidTests := true, laidLooks := .later }
def SeqsetParsesCardSaid : Prop := Claim7.holds Tryd.pinned (.plain (OpenSpec.ofChange seqsetParsesSpec)) seqsetParsesCard

/-- THE TIED CARD OF 'cubbylaw13.SeqsetHas'. -/
def seqsetHasCard : Claim7 := { stood := { row := seqsetHasRow, standIns := [], harness := (true, "9fc10067b0a2f8b56fb3953d498b33954404ea86cf222f876ad871affe0e814a"), looks := true }, kinds := [], alts := [], laidByText := true, laidKinds := [.data, .data, .data, .data, .sentinel, .sentinel, .pinned], laidTests := true, laidLooks := .later }
def SeqsetHasCardSaid : Prop := Claim7.holds Tryd.pinned (.plain (OpenSpec.ofChange seqsetHasSpec)) seqsetHasCard

/-- THE TIED CARD OF 'cubbylaw13.SeqsetPicks'. -/
def seqsetPicksCard : Claim7 := { stood := { row := seqsetPicksRow, standIns := [], harness := (true, "9fc10067b0a2f8b56fb3953d498b33954404ea86cf222f876ad871affe0e814a"), looks := true }, kinds := [], alts := [], laidByText := true, laidKinds := [.data, .data, .data, .data, .sentinel, .sentinel, .pinned], laidTests := true, laidLooks := .later }
def SeqsetPicksCardSaid : Prop := Claim7.holds Tryd.pinned (.plain (OpenSpec.ofChange seqsetPicksSpec)) seqsetPicksCard

/-- THE SECOND FORM's CARD OF 'cubbylaw06.NameLike'. -/
def nameLikeUptoCard : Claim7 := { stood := { row := nameLikeUptoRow, standIns := [], harness := (true, "9fc10067b0a2f8b56fb3953d498b33954404ea86cf222f876ad871affe0e814a"), looks := true }, kinds := [], alts := [], laidByText := true, laidKinds := [.data, .pinned, .pinned], laidTests := true, laidLooks := .later }
def NameLikeUptoCardSaid : Prop := Claim7.holds Tryd.pinned (.plain (OpenSpec.upto nameLikeSpec)) nameLikeUptoCard

/-- THE SECOND FORM's CARD OF 'cubbylaw06.NameSelf'. -/
def nameSelfUptoCard : Claim7 := { stood := { row := nameSelfUptoRow, standIns := [], harness := (true, "9fc10067b0a2f8b56fb3953d498b33954404ea86cf222f876ad871affe0e814a"), looks := true }, kinds := [], alts := [], laidByText := true, laidKinds := [.data, .pinned, .pinned], laidTests := true, laidLooks := .later }
def NameSelfUptoCardSaid : Prop := Claim7.holds Tryd.pinned (.plain (OpenSpec.upto nameSelfSpec)) nameSelfUptoCard

/-- THE SECOND FORM's CARD OF 'cubbylaw06.NameNorms'. -/
def nameNormsUptoCard : Claim7 := { stood := { row := nameNormsUptoRow, standIns := [], harness := (true, "9fc10067b0a2f8b56fb3953d498b33954404ea86cf222f876ad871affe0e814a"), looks := true }, kinds := [], alts := [], laidByText := true, laidKinds := [.data, .pinned, .pinned], laidTests := true, laidLooks := .later }
def NameNormsUptoCardSaid : Prop := Claim7.holds Tryd.pinned (.plain (OpenSpec.upto nameNormsSpec)) nameNormsUptoCard

/-- THE SECOND FORM's CARD OF 'cubbylaw07.DateParses'. -/
def dateParsesUptoCard : Claim7 := { stood := { row := dateParsesUptoRow, standIns := [], harness := (true, "9fc10067b0a2f8b56fb3953d498b33954404ea86cf222f876ad871affe0e814a"), looks := true }, kinds := [], alts := [], laidByText := true, laidKinds := [.data, .data, .data, .data, .pinned, .pinned], laidTests := true, laidLooks := .later }
def DateParsesUptoCardSaid : Prop := Claim7.holds Tryd.pinned (.plain (OpenSpec.upto dateParsesSpec)) dateParsesUptoCard

/-- THE SECOND FORM's CARD OF 'cubbylaw07.DateZones'. -/
def dateZonesUptoCard : Claim7 := { stood := { row := dateZonesUptoRow, standIns := [], harness := (true, "9fc10067b0a2f8b56fb3953d498b33954404ea86cf222f876ad871affe0e814a"), looks := true }, kinds := [], alts := [], laidByText := true, laidKinds := [.data, .data, .data, .data, .pinned, .pinned], laidTests := true, laidLooks := .later }
def DateZonesUptoCardSaid : Prop := Claim7.holds Tryd.pinned (.plain (OpenSpec.upto dateZonesSpec)) dateZonesUptoCard

/-- THE SECOND FORM's CARD OF 'cubbylaw07.DatePrints'. -/
def datePrintsUptoCard : Claim7 := { stood := { row := datePrintsUptoRow, standIns := [], harness := (true, "9fc10067b0a2f8b56fb3953d498b33954404ea86cf222f876ad871affe0e814a"), looks := true }, kinds := [], alts := [], laidByText := true, laidKinds := [.data, .data, .data, .data, .pinned, .pinned], laidTests := true, laidLooks := .later }
def DatePrintsUptoCardSaid : Prop := Claim7.holds Tryd.pinned (.plain (OpenSpec.upto datePrintsSpec)) datePrintsUptoCard

/-- THE SECOND FORM's CARD OF 'cubbylaw13.SeqsetParses'. -/
def seqsetParsesUptoCard : Claim7 := { stood := { row := seqsetParsesUptoRow, standIns := [], harness := (true, "9fc10067b0a2f8b56fb3953d498b33954404ea86cf222f876ad871affe0e814a"), looks := true }, kinds := [], alts := [], laidByText := true, laidKinds := [.data, .data, .data, .data, .sentinel, .sentinel, .pinned], laidTests := true, laidLooks := .later }
def SeqsetParsesUptoCardSaid : Prop := Claim7.holds Tryd.pinned (.plain (OpenSpec.upto seqsetParsesSpec)) seqsetParsesUptoCard

/-- THE SECOND FORM's CARD OF 'cubbylaw13.SeqsetHas'. -/
def seqsetHasUptoCard : Claim7 := { stood := { row := seqsetHasUptoRow, standIns := [], harness := (true, "9fc10067b0a2f8b56fb3953d498b33954404ea86cf222f876ad871affe0e814a"), looks := true }, kinds := [], alts := [], laidByText := true, laidKinds := [.data, .data, .data, .data, .sentinel, .sentinel, .pinned], laidTests := true, laidLooks := .later }
def SeqsetHasUptoCardSaid : Prop := Claim7.holds Tryd.pinned (.plain (OpenSpec.upto seqsetHasSpec)) seqsetHasUptoCard

/-- THE SECOND FORM's CARD OF 'cubbylaw13.SeqsetPicks'. -/
def seqsetPicksUptoCard : Claim7 := { stood := { row := seqsetPicksUptoRow, standIns := [], harness := (true, "9fc10067b0a2f8b56fb3953d498b33954404ea86cf222f876ad871affe0e814a"), looks := true }, kinds := [], alts := [], laidByText := true, laidKinds := [.data, .data, .data, .data, .sentinel, .sentinel, .pinned], laidTests := true, laidLooks := .later }
def SeqsetPicksUptoCardSaid : Prop := Claim7.holds Tryd.pinned (.plain (OpenSpec.upto seqsetPicksSpec)) seqsetPicksUptoCard
end Rows
end Go.Proofs.YtfnckkmnncdelaaDoor
