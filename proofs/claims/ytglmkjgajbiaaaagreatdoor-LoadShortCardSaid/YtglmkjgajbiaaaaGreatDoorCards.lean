/-
  DERIVED. GIVEN WITH THE SEED: THE CARDS: each row of YtglmkjgajbiaaaaGreatDoorRows.lean that lists a variable, with what it lists TIED to the program's text (the seventh form; the later family's looks); each row that meets fmt, with fmt's text TOLD by the authors' own Lean function (tested against real Go, not proved from fmt's source: count such statements apart). THE CARD IS WHAT COUNTS. Prove the row's statement (the work); the ties are given (YtglmkjgajbiaaaaGreatDoorTie.lean); close each card by the builder's one call (the guide's Derived/Test/ToyasCard.lean, 'card_holds'). Laid BY PROGRAM, IN A SANDBOX (cutbox-door.mjs). By AI agents, Wed Nov 11 2026. No macro, syntax, notation, axiom, sorry.
-/
import Derived.Test.YtglmkjgajbiaaaaGreatDoorRows
import GoSem.ClaimSeven
namespace Go.Proofs.YtglmkjgajbiaaaaGreatDoor
namespace Rows

/-- THE TIED CARD OF 'hammocklaw15.ReserveSees'. -/
def reserveSeesCard : Claim7 := { stood := { row := reserveSeesRow, standIns := [], harness := (true, "d38c797c1719cb3a1dc2d6c5b3b21928825f01dc9b99c56df21fdc0aad23d1d2"), looks := true }, kinds := [], alts := [], laidByText := true, laidKinds := [.handle], laidTests := true, laidLooks := .later }
def ReserveSeesCardSaid : Prop := Claim7.holds Tryz.pinned (.plain (OpenSpec.ofChange reserveSeesSpec)) reserveSeesCard

/-- THE TIED CARD OF 'hammocklaw15.ReserveLower'. -/
def reserveLowerCard : Claim7 := { stood := { row := reserveLowerRow, standIns := [], harness := (true, "d38c797c1719cb3a1dc2d6c5b3b21928825f01dc9b99c56df21fdc0aad23d1d2"), looks := true }, kinds := [], alts := [], laidByText := true, laidKinds := [.handle], laidTests := true, laidLooks := .later }
def ReserveLowerCardSaid : Prop := Claim7.holds Tryz.pinned (.plain (OpenSpec.ofChange reserveLowerSpec)) reserveLowerCard

/-- THE TIED CARD OF 'hammocklaw15.ReserveClears'. -/
def reserveClearsCard : Claim7 := { stood := { row := reserveClearsRow, standIns := [], harness := (true, "d38c797c1719cb3a1dc2d6c5b3b21928825f01dc9b99c56df21fdc0aad23d1d2"), looks := true }, kinds := [], alts := [], laidByText := true, laidKinds := [.handle], laidTests := true, laidLooks := .later }
def ReserveClearsCardSaid : Prop := Claim7.holds Tryz.pinned (.plain (OpenSpec.ofChange reserveClearsSpec)) reserveClearsCard

/-- THE TIED CARD OF 'hammocklaw16.LoadMatchesReference'. -/
def loadMatchesReferenceCard : Claim7 := { stood := { row := loadMatchesReferenceRow, standIns := [], harness := (true, "d38c797c1719cb3a1dc2d6c5b3b21928825f01dc9b99c56df21fdc0aad23d1d2"), looks := true }, kinds := [], alts := [], laidByText := true, laidKinds := [.handle], laidTests := true, laidLooks := .later }
def LoadMatchesReferenceCardSaid : Prop := Claim7.holds Tryz.pinned (.plain (OpenSpec.ofChange loadMatchesReferenceSpec)) loadMatchesReferenceCard

/-- THE TIED CARD OF 'hammocklaw16.LoadShort'. -/
def loadShortCard : Claim7 := { stood := { row := loadShortRow, standIns := [], harness := (true, "d38c797c1719cb3a1dc2d6c5b3b21928825f01dc9b99c56df21fdc0aad23d1d2"), looks := true }, kinds := [], alts := [], laidByText := true, laidKinds := [.handle], laidTests := true, laidLooks := .later }
def LoadShortCardSaid : Prop := Claim7.holds Tryz.pinned (.plain (OpenSpec.ofChange loadShortSpec)) loadShortCard

/-- THE TIED CARD OF 'hammocklaw16.LoadFewer'. -/
def loadFewerCard : Claim7 := { stood := { row := loadFewerRow, standIns := [], harness := (true, "d38c797c1719cb3a1dc2d6c5b3b21928825f01dc9b99c56df21fdc0aad23d1d2"), looks := true }, kinds := [], alts := [], laidByText := true, laidKinds := [.handle], laidTests := true, laidLooks := .later }
def LoadFewerCardSaid : Prop := Claim7.holds Tryz.pinned (.plain (OpenSpec.ofChange loadFewerSpec)) loadFewerCard

/-- THE TIED CARD OF 'hammocklaw16.LoadRises'. -/
def loadRisesCard : Claim7 := { stood := { row := loadRisesRow, standIns := [], harness := (true, "d38c797c1719cb3a1dc2d6c5b3b21928825f01dc9b99c56df21fdc0aad23d1d2"), looks := true }, kinds := [], alts := [], laidByText := true, laidKinds := [.handle], laidTests := true, laidLooks := .later }
def LoadRisesCardSaid : Prop := Claim7.holds Tryz.pinned (.plain (OpenSpec.ofChange loadRisesSpec)) loadRisesCard

/-- THE TIED CARD OF 'hammocklaw16.LoadBinds'. -/
def loadBindsCard : Claim7 := { stood := { row := loadBindsRow, standIns := [], harness := (true, "d38c797c1719cb3a1dc2d6c5b3b21928825f01dc9b99c56df21fdc0aad23d1d2"), looks := true }, kinds := [], alts := [], laidByText := true, laidKinds := [.handle], laidTests := true, laidLooks := .later }
def LoadBindsCardSaid : Prop := Claim7.holds Tryz.pinned (.plain (OpenSpec.ofChange loadBindsSpec)) loadBindsCard

/-- THE SECOND FORM's CARD OF 'hammocklaw15.ReserveSees'. -/
def reserveSeesUptoCard : Claim7 := { stood := { row := reserveSeesUptoRow, standIns := [], harness := (true, "d38c797c1719cb3a1dc2d6c5b3b21928825f01dc9b99c56df21fdc0aad23d1d2"), looks := true }, kinds := [], alts := [], laidByText := true, laidKinds := [.handle], laidTests := true, laidLooks := .later }
def ReserveSeesUptoCardSaid : Prop := Claim7.holds Tryz.pinned (.plain (OpenSpec.upto reserveSeesSpec)) reserveSeesUptoCard

/-- THE SECOND FORM's CARD OF 'hammocklaw15.ReserveLower'. -/
def reserveLowerUptoCard : Claim7 := { stood := { row := reserveLowerUptoRow, standIns := [], harness := (true, "d38c797c1719cb3a1dc2d6c5b3b21928825f01dc9b99c56df21fdc0aad23d1d2"), looks := true }, kinds := [], alts := [], laidByText := true, laidKinds := [.handle], laidTests := true, laidLooks := .later }
def ReserveLowerUptoCardSaid : Prop := Claim7.holds Tryz.pinned (.plain (OpenSpec.upto reserveLowerSpec)) reserveLowerUptoCard

/-- THE SECOND FORM's CARD OF 'hammocklaw15.ReserveClears'. -/
def reserveClearsUptoCard : Claim7 := { stood := { row := reserveClearsUptoRow, standIns := [], harness := (true, "d38c797c1719cb3a1dc2d6c5b3b21928825f01dc9b99c56df21fdc0aad23d1d2"), looks := true }, kinds := [], alts := [], laidByText := true, laidKinds := [.handle], laidTests := true, laidLooks := .later }
def ReserveClearsUptoCardSaid : Prop := Claim7.holds Tryz.pinned (.plain (OpenSpec.upto reserveClearsSpec)) reserveClearsUptoCard

/-- THE SECOND FORM's CARD OF 'hammocklaw16.LoadMatchesReference'. -/
def loadMatchesReferenceUptoCard : Claim7 := { stood := { row := loadMatchesReferenceUptoRow, standIns := [], harness := (true, "d38c797c1719cb3a1dc2d6c5b3b21928825f01dc9b99c56df21fdc0aad23d1d2"), looks := true }, kinds := [], alts := [], laidByText := true, laidKinds := [.handle], laidTests := true, laidLooks := .later }
def LoadMatchesReferenceUptoCardSaid : Prop := Claim7.holds Tryz.pinned (.plain (OpenSpec.upto loadMatchesReferenceSpec)) loadMatchesReferenceUptoCard

/-- THE SECOND FORM's CARD OF 'hammocklaw16.LoadShort'. -/
def loadShortUptoCard : Claim7 := { stood := { row := loadShortUptoRow, standIns := [], harness := (true, "d38c797c1719cb3a1dc2d6c5b3b21928825f01dc9b99c56df21fdc0aad23d1d2"), looks := true }, kinds := [], alts := [], laidByText := true, laidKinds := [.handle], laidTests := true, laidLooks := .later }
def LoadShortUptoCardSaid : Prop := Claim7.holds Tryz.pinned (.plain (OpenSpec.upto loadShortSpec)) loadShortUptoCard

/-- THE SECOND FORM's CARD OF 'hammocklaw16.LoadFewer'. -/
def loadFewerUptoCard : Claim7 := { stood := { row := loadFewerUptoRow, standIns := [], harness := (true, "d38c797c1719cb3a1dc2d6c5b3b21928825f01dc9b99c56df21fdc0aad23d1d2"), looks := true }, kinds := [], alts := [], laidByText := true, laidKinds := [.handle], laidTests := true, laidLooks := .later }
def LoadFewerUptoCardSaid : Prop := Claim7.holds Tryz.pinned (.plain (OpenSpec.upto loadFewerSpec)) loadFewerUptoCard

/-- THE SECOND FORM's CARD OF 'hammocklaw16.LoadRises'. -/
def loadRisesUptoCard : Claim7 := { stood := { row := loadRisesUptoRow, standIns := [], harness := (true, "d38c797c1719cb3a1dc2d6c5b3b21928825f01dc9b99c56df21fdc0aad23d1d2"), looks := true }, kinds := [], alts := [], laidByText := true, laidKinds := [.handle], laidTests := true, laidLooks := .later }
def LoadRisesUptoCardSaid : Prop := Claim7.holds Tryz.pinned (.plain (OpenSpec.upto loadRisesSpec)) loadRisesUptoCard

/-- THE SECOND FORM's CARD OF 'hammocklaw16.LoadBinds'. -/
def loadBindsUptoCard : Claim7 := { stood := { row := loadBindsUptoRow, standIns := [], harness := (true, "d38c797c1719cb3a1dc2d6c5b3b21928825f01dc9b99c56df21fdc0aad23d1d2"), looks := true }, kinds := [], alts := [], laidByText := true, laidKinds := [.handle], laidTests := true, laidLooks := .later }
def LoadBindsUptoCardSaid : Prop := Claim7.holds Tryz.pinned (.plain (OpenSpec.upto loadBindsSpec)) loadBindsUptoCard
end Rows
end Go.Proofs.YtglmkjgajbiaaaaGreatDoor
