/-
  DERIVED. GIVEN WITH THE SEED: THE CARDS: each row of YtjljjakfebfpfaaDoorRows.lean that lists a variable, with what it lists TIED to the program's text (the seventh form; the later family's looks); each row that meets fmt, with fmt's text TOLD by the authors' own Lean function (tested against real Go, not proved from fmt's source: count such statements apart). THE CARD IS WHAT COUNTS. Prove the row's statement (the work); the ties are given (YtjljjakfebfpfaaDoorTie.lean); close each card by the builder's one call (the guide's Derived/Test/ToyasCard.lean, 'card_holds'). Laid BY PROGRAM, IN A SANDBOX (cutbox-door.mjs). By AI agents, Wed Nov 11 2026. No macro, syntax, notation, axiom, sorry.
-/
import Derived.Test.YtjljjakfebfpfaaDoorRows
import GoSem.ClaimSeven
namespace Go.Proofs.YtjljjakfebfpfaaDoor
namespace Rows

/-- THE TIED CARD OF 'hammocklaw11.ClassMatchesReference'. -/
def classMatchesReferenceCard : Claim7 := { stood := { row := classMatchesReferenceRow, standIns := [], harness := (true, "806a37cb38a9ed9eef453af8e2df942b2782729a86c7461b62db36f9e9149a4c"), looks := true }, kinds := [], alts := [], laidByText := true, laidKinds := [.handle], laidTests := true, laidLooks := .later }
def ClassMatchesReferenceCardSaid : Prop := Claim7.holds Tryd.pinned (.plain (OpenSpec.ofChange classMatchesReferenceSpec)) classMatchesReferenceCard

/-- THE TIED CARD OF 'hammocklaw11.ClassPods'. -/
def classPodsCard : Claim7 := { stood := { row := classPodsRow, standIns := [], harness := (true, "806a37cb38a9ed9eef453af8e2df942b2782729a86c7461b62db36f9e9149a4c"), looks := true }, kinds := [], alts := [], laidByText := true, laidKinds := [.handle], laidTests := true, laidLooks := .later }
def ClassPodsCardSaid : Prop := Claim7.holds Tryd.pinned (.plain (OpenSpec.ofChange classPodsSpec)) classPodsCard

/-- THE TIED CARD OF 'hammocklaw11.ClassApart'. -/
def classApartCard : Claim7 := { stood := { row := classApartRow, standIns := [], harness := (true, "806a37cb38a9ed9eef453af8e2df942b2782729a86c7461b62db36f9e9149a4c"), looks := true }, kinds := [], alts := [], laidByText := true, laidKinds := [.handle], laidTests := true, laidLooks := .later }
def ClassApartCardSaid : Prop := Claim7.holds Tryd.pinned (.plain (OpenSpec.ofChange classApartSpec)) classApartCard

/-- THE TIED CARD OF 'hammocklaw11.ClassHighest'. -/
def classHighestCard : Claim7 := { stood := { row := classHighestRow, standIns := [], harness := (true, "806a37cb38a9ed9eef453af8e2df942b2782729a86c7461b62db36f9e9149a4c"), looks := true }, kinds := [], alts := [], laidByText := true, laidKinds := [.handle], laidTests := true, laidLooks := .later }
def ClassHighestCardSaid : Prop := Claim7.holds Tryd.pinned (.plain (OpenSpec.ofChange classHighestSpec)) classHighestCard

/-- THE TIED CARD OF 'hammocklaw12.NodeInverse'. -/
def nodeInverseCard : Claim7 := { stood := { row := nodeInverseRow, standIns := [], harness := (true, "806a37cb38a9ed9eef453af8e2df942b2782729a86c7461b62db36f9e9149a4c"), looks := true }, kinds := [], alts := [], laidByText := true, laidKinds := [.handle], laidTests := true, laidLooks := .later }
def NodeInverseCardSaid : Prop := Claim7.holds Tryd.pinned (.plain (OpenSpec.ofChange nodeInverseSpec)) nodeInverseCard

/-- THE TIED CARD OF 'hammocklaw12.NodeKeeps'. -/
def nodeKeepsCard : Claim7 := { stood := { row := nodeKeepsRow, standIns := [], harness := (true, "806a37cb38a9ed9eef453af8e2df942b2782729a86c7461b62db36f9e9149a4c"), looks := true }, kinds := [], alts := [], laidByText := true, laidKinds := [.handle], laidTests := true, laidLooks := .later }
def NodeKeepsCardSaid : Prop := Claim7.holds Tryd.pinned (.plain (OpenSpec.ofChange nodeKeepsSpec)) nodeKeepsCard

/-- THE SECOND FORM's CARD OF 'hammocklaw11.ClassMatchesReference'. -/
def classMatchesReferenceUptoCard : Claim7 := { stood := { row := classMatchesReferenceUptoRow, standIns := [], harness := (true, "806a37cb38a9ed9eef453af8e2df942b2782729a86c7461b62db36f9e9149a4c"), looks := true }, kinds := [], alts := [], laidByText := true, laidKinds := [.handle], laidTests := true, laidLooks := .later }
def ClassMatchesReferenceUptoCardSaid : Prop := Claim7.holds Tryd.pinned (.plain (OpenSpec.upto classMatchesReferenceSpec)) classMatchesReferenceUptoCard

/-- THE SECOND FORM's CARD OF 'hammocklaw11.ClassPods'. -/
def classPodsUptoCard : Claim7 := { stood := { row := classPodsUptoRow, standIns := [], harness := (true, "806a37cb38a9ed9eef453af8e2df942b2782729a86c7461b62db36f9e9149a4c"), looks := true }, kinds := [], alts := [], laidByText := true, laidKinds := [.handle], laidTests := true, laidLooks := .later }
def ClassPodsUptoCardSaid : Prop := Claim7.holds Tryd.pinned (.plain (OpenSpec.upto classPodsSpec)) classPodsUptoCard

/-- THE SECOND FORM's CARD OF 'hammocklaw11.ClassApart'. -/
def classApartUptoCard : Claim7 := { stood := { row := classApartUptoRow, standIns := [], harness := (true, "806a37cb38a9ed9eef453af8e2df942b2782729a86c7461b62db36f9e9149a4c"), looks := true }, kinds := [], alts := [], laidByText := true, laidKinds := [.handle], laidTests := true, laidLooks := .later }
def ClassApartUptoCardSaid : Prop := Claim7.holds Tryd.pinned (.plain (OpenSpec.upto classApartSpec)) classApartUptoCard

/-- THE SECOND FORM's CARD OF 'hammocklaw11.ClassHighest'. -/
def classHighestUptoCard : Claim7 := { stood := { row := classHighestUptoRow, standIns := [], harness := (true, "806a37cb38a9ed9eef453af8e2df942b2782729a86c7461b62db36f9e9149a4c"), looks := true }, kinds := [], alts := [], laidByText := true, laidKinds := [.handle], laidTests := true, laidLooks := .later }
def ClassHighestUptoCardSaid : Prop := Claim7.holds Tryd.pinned (.plain (OpenSpec.upto classHighestSpec)) classHighestUptoCard

/-- THE SECOND FORM's CARD OF 'hammocklaw12.NodeInverse'. -/
def nodeInverseUptoCard : Claim7 := { stood := { row := nodeInverseUptoRow, standIns := [], harness := (true, "806a37cb38a9ed9eef453af8e2df942b2782729a86c7461b62db36f9e9149a4c"), looks := true }, kinds := [], alts := [], laidByText := true, laidKinds := [.handle], laidTests := true, laidLooks := .later }
def NodeInverseUptoCardSaid : Prop := Claim7.holds Tryd.pinned (.plain (OpenSpec.upto nodeInverseSpec)) nodeInverseUptoCard

/-- THE SECOND FORM's CARD OF 'hammocklaw12.NodeKeeps'. -/
def nodeKeepsUptoCard : Claim7 := { stood := { row := nodeKeepsUptoRow, standIns := [], harness := (true, "806a37cb38a9ed9eef453af8e2df942b2782729a86c7461b62db36f9e9149a4c"), looks := true }, kinds := [], alts := [], laidByText := true, laidKinds := [.handle], laidTests := true, laidLooks := .later }
def NodeKeepsUptoCardSaid : Prop := Claim7.holds Tryd.pinned (.plain (OpenSpec.upto nodeKeepsSpec)) nodeKeepsUptoCard
end Rows
end Go.Proofs.YtjljjakfebfpfaaDoor
