/-
  DERIVED. GIVEN WITH THE SEED: THE CARDS: each row of YtdmdjiaocbccpaaDoorRows.lean that lists a variable, with what it lists TIED to the program's text (the seventh form; the later family's looks); each row that meets fmt, with fmt's text TOLD by the authors' own Lean function (tested against real Go, not proved from fmt's source: count such statements apart). THE CARD IS WHAT COUNTS. Prove the row's statement (the work); the ties are given (YtdmdjiaocbccpaaDoorTie.lean); close each card by the builder's one call (the guide's Derived/Test/ToyasCard.lean, 'card_holds'). Laid BY PROGRAM, IN A SANDBOX (cutbox-door.mjs). By AI agents, Wed Nov 11 2026. No macro, syntax, notation, axiom, sorry.
-/
import Derived.Test.YtdmdjiaocbccpaaDoorRows
import GoSem.ClaimSeven
namespace Go.Proofs.YtdmdjiaocbccpaaDoor
namespace Rows

/-- THE TIED CARD OF 'hammocklaw10.TableStrings'. -/
def tableStringsCard : Claim7 := { stood := { row := tableStringsRow, standIns := [], harness := (true, "f6dc8333862fabf998c3d3ab7ae5f9a339d52e4376b83f4b75d45bae756aff23"), looks := true }, kinds := [], alts := [], laidByText := true, laidKinds := [.handle], laidTests := true, laidLooks := .later }
def TableStringsCardSaid : Prop := Claim7.holds Tryd.pinned (.plain (OpenSpec.ofChange tableStringsSpec)) tableStringsCard

/-- THE TIED CARD OF 'hammocklaw10.TableMatchesReference'. -/
def tableMatchesReferenceCard : Claim7 := { stood := { row := tableMatchesReferenceRow, standIns := [], harness := (true, "f6dc8333862fabf998c3d3ab7ae5f9a339d52e4376b83f4b75d45bae756aff23"), looks := true }, kinds := [], alts := [], laidByText := true, laidKinds := [.handle], laidTests := true, laidLooks := .later }
def TableMatchesReferenceCardSaid : Prop := Claim7.holds Tryd.pinned (.plain (OpenSpec.ofChange tableMatchesReferenceSpec)) tableMatchesReferenceCard

/-- THE TIED CARD OF 'hammocklaw10.TableAgain'. -/
def tableAgainCard : Claim7 := { stood := { row := tableAgainRow, standIns := [], harness := (true, "f6dc8333862fabf998c3d3ab7ae5f9a339d52e4376b83f4b75d45bae756aff23"), looks := true }, kinds := [], alts := [], laidByText := true, laidKinds := [.handle], laidTests := true, laidLooks := .later }
def TableAgainCardSaid : Prop := Claim7.holds Tryd.pinned (.plain (OpenSpec.ofChange tableAgainSpec)) tableAgainCard

/-- THE TIED CARD OF 'hammocklaw10.TableRoom'. -/
def tableRoomCard : Claim7 := { stood := { row := tableRoomRow, standIns := [], harness := (true, "f6dc8333862fabf998c3d3ab7ae5f9a339d52e4376b83f4b75d45bae756aff23"), looks := true }, kinds := [], alts := [], laidByText := true, laidKinds := [.handle], laidTests := true, laidLooks := .later }
def TableRoomCardSaid : Prop := Claim7.holds Tryd.pinned (.plain (OpenSpec.ofChange tableRoomSpec)) tableRoomCard

/-- THE TIED CARD OF 'hammocklaw10.TableApart'. -/
def tableApartCard : Claim7 := { stood := { row := tableApartRow, standIns := [], harness := (true, "f6dc8333862fabf998c3d3ab7ae5f9a339d52e4376b83f4b75d45bae756aff23"), looks := true }, kinds := [], alts := [], laidByText := true, laidKinds := [.handle], laidTests := true, laidLooks := .later }
def TableApartCardSaid : Prop := Claim7.holds Tryd.pinned (.plain (OpenSpec.ofChange tableApartSpec)) tableApartCard

/-- THE SECOND FORM's CARD OF 'hammocklaw10.TableStrings'. -/
def tableStringsUptoCard : Claim7 := { stood := { row := tableStringsUptoRow, standIns := [], harness := (true, "f6dc8333862fabf998c3d3ab7ae5f9a339d52e4376b83f4b75d45bae756aff23"), looks := true }, kinds := [], alts := [], laidByText := true, laidKinds := [.handle], laidTests := true, laidLooks := .later }
def TableStringsUptoCardSaid : Prop := Claim7.holds Tryd.pinned (.plain (OpenSpec.upto tableStringsSpec)) tableStringsUptoCard

/-- THE SECOND FORM's CARD OF 'hammocklaw10.TableMatchesReference'. -/
def tableMatchesReferenceUptoCard : Claim7 := { stood := { row := tableMatchesReferenceUptoRow, standIns := [], harness := (true, "f6dc8333862fabf998c3d3ab7ae5f9a339d52e4376b83f4b75d45bae756aff23"), looks := true }, kinds := [], alts := [], laidByText := true, laidKinds := [.handle], laidTests := true, laidLooks := .later }
def TableMatchesReferenceUptoCardSaid : Prop := Claim7.holds Tryd.pinned (.plain (OpenSpec.upto tableMatchesReferenceSpec)) tableMatchesReferenceUptoCard

/-- THE SECOND FORM's CARD OF 'hammocklaw10.TableAgain'. -/
def tableAgainUptoCard : Claim7 := { stood := { row := tableAgainUptoRow, standIns := [], harness := (true, "f6dc8333862fabf998c3d3ab7ae5f9a339d52e4376b83f4b75d45bae756aff23"), looks := true }, kinds := [], alts := [], laidByText := true, laidKinds := [.handle], laidTests := true, laidLooks := .later }
def TableAgainUptoCardSaid : Prop := Claim7.holds Tryd.pinned (.plain (OpenSpec.upto tableAgainSpec)) tableAgainUptoCard

/-- THE SECOND FORM's CARD OF 'hammocklaw10.TableRoom'. -/
def tableRoomUptoCard : Claim7 := { stood := { row := tableRoomUptoRow, standIns := [], harness := (true, "f6dc8333862fabf998c3d3ab7ae5f9a339d52e4376b83f4b75d45bae756aff23"), looks := true }, kinds := [], alts := [], laidByText := true, laidKinds := [.handle], laidTests := true, laidLooks := .later }
def TableRoomUptoCardSaid : Prop := Claim7.holds Tryd.pinned (.plain (OpenSpec.upto tableRoomSpec)) tableRoomUptoCard

/-- THE SECOND FORM's CARD OF 'hammocklaw10.TableApart'. -/
def tableApartUptoCard : Claim7 := { stood := { row := tableApartUptoRow, standIns := [], harness := (true, "f6dc8333862fabf998c3d3ab7ae5f9a339d52e4376b83f4b75d45bae756aff23"), looks := true }, kinds := [], alts := [], laidByText := true, laidKinds := [.handle], laidTests := true, laidLooks := .later }
def TableApartUptoCardSaid : Prop := Claim7.holds Tryd.pinned (.plain (OpenSpec.upto tableApartSpec)) tableApartUptoCard
end Rows
end Go.Proofs.YtdmdjiaocbccpaaDoor
