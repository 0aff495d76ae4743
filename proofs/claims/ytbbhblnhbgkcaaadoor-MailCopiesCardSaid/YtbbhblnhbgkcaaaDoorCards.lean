/-
  DERIVED. GIVEN WITH THE SEED: THE CARDS: each row of YtbbhblnhbgkcaaaDoorRows.lean that lists a variable, with what it lists TIED to the program's text (the seventh form; the later family's looks); each row that meets fmt, with fmt's text TOLD by the authors' own Lean function (tested against real Go, not proved from fmt's source: count such statements apart). THE CARD IS WHAT COUNTS. Prove the row's statement (the work); the ties are given (YtbbhblnhbgkcaaaDoorTie.lean); close each card by the builder's one call (the guide's Derived/Test/ToyasCard.lean, 'card_holds'). Laid BY PROGRAM, IN A SANDBOX (cutbox-door.mjs). By AI agents, Wed Nov 11 2026. No macro, syntax, notation, axiom, sorry.
-/
import Derived.Test.YtbbhblnhbgkcaaaDoorRows
import GoSem.ClaimSeven
namespace Go.Proofs.YtbbhblnhbgkcaaaDoor
namespace Rows

/-- THE TIED CARD OF 'cubbylaw12.MailRight'. -/
def mailRightCard : Claim7 := { stood := { row := mailRightRow, standIns := [], harness := (true, "3836376b2d3b21f37b815db2a8a6e55fea78fb44b2a33f88918f2fda80c86ae3"), looks := false }, kinds := [], alts := [], laidByText := true, laidKinds := [.data, .data, .data, .data, .pinned, .pinned], laidTests := true, laidLooks := .later }
def MailRightCardSaid : Prop := Claim7.holds Tryd.pinned (.plain (OpenSpec.ofChange mailRightSpec)) mailRightCard

/-- THE TIED CARD OF 'cubbylaw12.MailAppends'. -/
def mailAppendsCard : Claim7 := { stood := { row := mailAppendsRow, standIns := [], harness := (true, "3836376b2d3b21f37b815db2a8a6e55fea78fb44b2a33f88918f2fda80c86ae3"), looks := false }, kinds := [], alts := [], laidByText := true, laidKinds := [.data, .data, .data, .data, .pinned, .pinned], laidTests := true, laidLooks := .later }
def MailAppendsCardSaid : Prop := Claim7.holds Tryd.pinned (.plain (OpenSpec.ofChange mailAppendsSpec)) mailAppendsCard

/-- THE TIED CARD OF 'cubbylaw12.MailStores'. -/
def mailStoresCard : Claim7 := { stood := { row := mailStoresRow, standIns := [], harness := (true, "3836376b2d3b21f37b815db2a8a6e55fea78fb44b2a33f88918f2fda80c86ae3"), looks := false }, kinds := [], alts := [], laidByText := true, laidKinds := [.data, .data, .data, .data, .pinned, .pinned], laidTests := true, laidLooks := .later }
def MailStoresCardSaid : Prop := Claim7.holds Tryd.pinned (.plain (OpenSpec.ofChange mailStoresSpec)) mailStoresCard

/-- THE TIED CARD OF 'cubbylaw12.MailExpunges'. -/
def mailExpungesCard : Claim7 := { stood := { row := mailExpungesRow, standIns := [], harness := (true, "3836376b2d3b21f37b815db2a8a6e55fea78fb44b2a33f88918f2fda80c86ae3"), looks := false }, kinds := [], alts := [], laidByText := true, laidKinds := [.data, .data, .data, .data, .pinned, .pinned], laidTests := true, laidLooks := .later }
def MailExpungesCardSaid : Prop := Claim7.holds Tryd.pinned (.plain (OpenSpec.ofChange mailExpungesSpec)) mailExpungesCard

/-- THE TIED CARD OF 'cubbylaw12.MailCopies'. -/
def mailCopiesCard : Claim7 := { stood := { row := mailCopiesRow, standIns := [], harness := (true, "3836376b2d3b21f37b815db2a8a6e55fea78fb44b2a33f88918f2fda80c86ae3"), looks := false }, kinds := [], alts := [], laidByText := true, laidKinds := [.data, .data, .data, .data, .pinned, .pinned], laidTests := true, laidLooks := .later }
def MailCopiesCardSaid : Prop := Claim7.holds Tryd.pinned (.plain (OpenSpec.ofChange mailCopiesSpec)) mailCopiesCard

/-- THE SECOND FORM's CARD OF 'cubbylaw12.MailRight'. -/
def mailRightUptoCard : Claim7 := { stood := { row := mailRightUptoRow, standIns := [], harness := (true, "3836376b2d3b21f37b815db2a8a6e55fea78fb44b2a33f88918f2fda80c86ae3"), looks := false }, kinds := [], alts := [], laidByText := true, laidKinds := [.data, .data, .data, .data, .pinned, .pinned], laidTests := true, laidLooks := .later }
def MailRightUptoCardSaid : Prop := Claim7.holds Tryd.pinned (.plain (OpenSpec.upto mailRightSpec)) mailRightUptoCard

/-- THE SECOND FORM's CARD OF 'cubbylaw12.MailAppends'. -/
def mailAppendsUptoCard : Claim7 := { stood := { row := mailAppendsUptoRow, standIns := [], harness := (true, "3836376b2d3b21f37b815db2a8a6e55fea78fb44b2a33f88918f2fda80c86ae3"), looks := false }, kinds := [], alts := [], laidByText := true, laidKinds := [.data, .data, .data, .data, .pinned, .pinned], laidTests := true, laidLooks := .later }
def MailAppendsUptoCardSaid : Prop := Claim7.holds Tryd.pinned (.plain (OpenSpec.upto mailAppendsSpec)) mailAppendsUptoCard

/-- THE SECOND FORM's CARD OF 'cubbylaw12.MailStores'. -/
def mailStoresUptoCard : Claim7 := { stood := { row := mailStoresUptoRow, standIns := [], harness := (true, "3836376b2d3b21f37b815db2a8a6e55fea78fb44b2a33f88918f2fda80c86ae3"), looks := false }, kinds := [], alts := [], laidByText := true, laidKinds := [.data, .data, .data, .data, .pinned, .pinned], laidTests := true, laidLooks := .later }
def MailStoresUptoCardSaid : Prop := Claim7.holds Tryd.pinned (.plain (OpenSpec.upto mailStoresSpec)) mailStoresUptoCard

/-- THE SECOND FORM's CARD OF 'cubbylaw12.MailExpunges'. -/
def mailExpungesUptoCard : Claim7 := { stood := { row := mailExpungesUptoRow, standIns := [], harness := (true, "3836376b2d3b21f37b815db2a8a6e55fea78fb44b2a33f88918f2fda80c86ae3"), looks := false }, kinds := [], alts := [], laidByText := true, laidKinds := [.data, .data, .data, .data, .pinned, .pinned], laidTests := true, laidLooks := .later }
def MailExpungesUptoCardSaid : Prop := Claim7.holds Tryd.pinned (.plain (OpenSpec.upto mailExpungesSpec)) mailExpungesUptoCard

/-- THE SECOND FORM's CARD OF 'cubbylaw12.MailCopies'. -/
def mailCopiesUptoCard : Claim7 := { stood := { row := mailCopiesUptoRow, standIns := [], harness := (true, "3836376b2d3b21f37b815db2a8a6e55fea78fb44b2a33f88918f2fda80c86ae3"), looks := false }, kinds := [], alts := [], laidByText := true, laidKinds := [.data, .data, .data, .data, .pinned, .pinned], laidTests := true, laidLooks := .later }
def MailCopiesUptoCardSaid : Prop := Claim7.holds Tryd.pinned (.plain (OpenSpec.upto mailCopiesSpec)) mailCopiesUptoCard
end Rows
end Go.Proofs.YtbbhblnhbgkcaaaDoor
