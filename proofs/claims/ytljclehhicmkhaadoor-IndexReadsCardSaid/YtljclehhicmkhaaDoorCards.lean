/-
  DERIVED. GIVEN WITH THE SEED: THE CARDS: each row of YtljclehhicmkhaaDoorRows.lean that lists a variable, with what it lists TIED to the program's text (the seventh form; the later family's looks); each row that meets fmt, with fmt's text TOLD by the authors' own Lean function (tested against real Go, not proved from fmt's source: count such statements apart). THE CARD IS WHAT COUNTS. Prove the row's statement (the work); the ties are given (YtljclehhicmkhaaDoorTie.lean); close each card by the builder's one call (the guide's Derived/Test/ToyasCard.lean, 'card_holds'). Laid BY PROGRAM, IN A SANDBOX (cutbox-door.mjs). By AI agents, Wed Nov 11 2026. No macro, syntax, notation, axiom, sorry.
-/
import Derived.Test.YtljclehhicmkhaaDoorRows
import GoSem.ClaimSeven
namespace Go.Proofs.YtljclehhicmkhaaDoor
namespace Rows

/-- THE TIED CARD OF 'cubbylaw11.IndexTrees'. -/
def indexTreesCard : Claim7 := { stood := { row := indexTreesRow, standIns := [], harness := (true, "1c11d60b7d1b2206501524cc6af3854bea875370e07734f59614c7b6fccba8cc"), looks := false }, kinds := [], alts := [], laidByText := true, laidKinds := [.data, .pinned, .pinned], laidTests := true, laidLooks := .later }
def IndexTreesCardSaid : Prop := Claim7.holds Tryd.pinned (.plain (OpenSpec.ofChange indexTreesSpec)) indexTreesCard

/-- THE TIED CARD OF 'cubbylaw11.IndexFlags'. -/
def indexFlagsCard : Claim7 := { stood := { row := indexFlagsRow, standIns := [], harness := (true, "1c11d60b7d1b2206501524cc6af3854bea875370e07734f59614c7b6fccba8cc"), looks := false }, kinds := [], alts := [], laidByText := true, laidKinds := [.data, .pinned, .pinned], laidTests := true, laidLooks := .later }
def IndexFlagsCardSaid : Prop := Claim7.holds Tryd.pinned (.plain (OpenSpec.ofChange indexFlagsSpec)) indexFlagsCard

/-- THE TIED CARD OF 'cubbylaw11.IndexWrites'. -/
def indexWritesCard : Claim7 := { stood := { row := indexWritesRow, standIns := [], harness := (true, "1c11d60b7d1b2206501524cc6af3854bea875370e07734f59614c7b6fccba8cc"), looks := false }, kinds := [], alts := [], laidByText := true, laidKinds := [.data, .pinned, .pinned], laidTests := true, laidLooks := .later }
def IndexWritesCardSaid : Prop := Claim7.holds Tryd.pinned (.plain (OpenSpec.ofChange indexWritesSpec)) indexWritesCard

/-- THE TIED CARD OF 'cubbylaw11.IndexReads'. -/
def indexReadsCard : Claim7 := { stood := { row := indexReadsRow, standIns := [], harness := (true, "1c11d60b7d1b2206501524cc6af3854bea875370e07734f59614c7b6fccba8cc"), looks := false }, kinds := [], alts := [], laidByText := true, laidKinds := [.data, .pinned, .pinned], laidTests := true, laidLooks := .later }
def IndexReadsCardSaid : Prop := Claim7.holds Tryd.pinned (.plain (OpenSpec.ofChange indexReadsSpec)) indexReadsCard

/-- THE SECOND FORM's CARD OF 'cubbylaw11.IndexTrees'. -/
def indexTreesUptoCard : Claim7 := { stood := { row := indexTreesUptoRow, standIns := [], harness := (true, "1c11d60b7d1b2206501524cc6af3854bea875370e07734f59614c7b6fccba8cc"), looks := false }, kinds := [], alts := [], laidByText := true, laidKinds := [.data, .pinned, .pinned], laidTests := true, laidLooks := .later }
def IndexTreesUptoCardSaid : Prop := Claim7.holds Tryd.pinned (.plain (OpenSpec.upto indexTreesSpec)) indexTreesUptoCard

/-- THE SECOND FORM's CARD OF 'cubbylaw11.IndexFlags'. -/
def indexFlagsUptoCard : Claim7 := { stood := { row := indexFlagsUptoRow, standIns := [], harness := (true, "1c11d60b7d1b2206501524cc6af3854bea875370e07734f59614c7b6fccba8cc"), looks := false }, kinds := [], alts := [], laidByText := true, laidKinds := [.data, .pinned, .pinned], laidTests := true, laidLooks := .later }
def IndexFlagsUptoCardSaid : Prop := Claim7.holds Tryd.pinned (.plain (OpenSpec.upto indexFlagsSpec)) indexFlagsUptoCard

/-- THE SECOND FORM's CARD OF 'cubbylaw11.IndexWrites'. -/
def indexWritesUptoCard : Claim7 := { stood := { row := indexWritesUptoRow, standIns := [], harness := (true, "1c11d60b7d1b2206501524cc6af3854bea875370e07734f59614c7b6fccba8cc"), looks := false }, kinds := [], alts := [], laidByText := true, laidKinds := [.data, .pinned, .pinned], laidTests := true, laidLooks := .later }
def IndexWritesUptoCardSaid : Prop := Claim7.holds Tryd.pinned (.plain (OpenSpec.upto indexWritesSpec)) indexWritesUptoCard

/-- THE SECOND FORM's CARD OF 'cubbylaw11.IndexReads'. -/
def indexReadsUptoCard : Claim7 := { stood := { row := indexReadsUptoRow, standIns := [], harness := (true, "1c11d60b7d1b2206501524cc6af3854bea875370e07734f59614c7b6fccba8cc"), looks := false }, kinds := [], alts := [], laidByText := true, laidKinds := [.data, .pinned, .pinned], laidTests := true, laidLooks := .later }
def IndexReadsUptoCardSaid : Prop := Claim7.holds Tryd.pinned (.plain (OpenSpec.upto indexReadsSpec)) indexReadsUptoCard
end Rows
end Go.Proofs.YtljclehhicmkhaaDoor
