/-
  DERIVED. GIVEN WITH THE SEED: THE CARDS: each row of YtmeicgbddgeeoaaGreatDoorRows.lean that lists a variable, with what it lists TIED to the program's text (the seventh form; the later family's looks); each row that meets fmt, with fmt's text TOLD by the authors' own Lean function (tested against real Go, not proved from fmt's source: count such statements apart). THE CARD IS WHAT COUNTS. Prove the row's statement (the work); the ties are given (YtmeicgbddgeeoaaGreatDoorTie.lean); close each card by the builder's one call (the guide's Derived/Test/ToyasCard.lean, 'card_holds'). Laid BY PROGRAM, IN A SANDBOX (cutbox-door.mjs). By AI agents, Wed Nov 11 2026. No macro, syntax, notation, axiom, sorry.
-/
import Derived.Test.YtmeicgbddgeeoaaGreatDoorRows
import GoSem.ClaimSeven
namespace Go.Proofs.YtmeicgbddgeeoaaGreatDoor
namespace Rows

/-- THE TIED CARD OF 'hammocklaw18.VictimsMatchesReference'. -/
def victimsMatchesReferenceCard : Claim7 := { stood := { row := victimsMatchesReferenceRow, standIns := [], harness := (true, "fc8d04cf4604458d72450ce80ace9ec7af588b13d77d7a1cd1737c826a4e933d"), looks := true }, kinds := [], alts := [], laidByText := true, laidKinds := [.handle], laidTests := true, laidLooks := .later }
def VictimsMatchesReferenceCardSaid : Prop := Claim7.holds Tryz.pinned (.plain (OpenSpec.ofChange victimsMatchesReferenceSpec)) victimsMatchesReferenceCard

/-- THE TIED CARD OF 'hammocklaw18.VictimsMinimal'. -/
def victimsMinimalCard : Claim7 := { stood := { row := victimsMinimalRow, standIns := [], harness := (true, "fc8d04cf4604458d72450ce80ace9ec7af588b13d77d7a1cd1737c826a4e933d"), looks := true }, kinds := [], alts := [], laidByText := true, laidKinds := [.handle], laidTests := true, laidLooks := .later }
def VictimsMinimalCardSaid : Prop := Claim7.holds Tryz.pinned (.plain (OpenSpec.ofChange victimsMinimalSpec)) victimsMinimalCard

/-- THE TIED CARD OF 'hammocklaw18.VictimsChecks'. -/
def victimsChecksCard : Claim7 := { stood := { row := victimsChecksRow, standIns := [], harness := (true, "fc8d04cf4604458d72450ce80ace9ec7af588b13d77d7a1cd1737c826a4e933d"), looks := true }, kinds := [], alts := [], laidByText := true, laidKinds := [.handle], laidTests := true, laidLooks := .later }
def VictimsChecksCardSaid : Prop := Claim7.holds Tryz.pinned (.plain (OpenSpec.ofChange victimsChecksSpec)) victimsChecksCard

/-- THE TIED CARD OF 'hammocklaw18.VictimsSubsets'. -/
def victimsSubsetsCard : Claim7 := { stood := { row := victimsSubsetsRow, standIns := [], harness := (true, "fc8d04cf4604458d72450ce80ace9ec7af588b13d77d7a1cd1737c826a4e933d"), looks := true }, kinds := [], alts := [], laidByText := true, laidKinds := [.handle], laidTests := true, laidLooks := .later }
def VictimsSubsetsCardSaid : Prop := Claim7.holds Tryz.pinned (.plain (OpenSpec.ofChange victimsSubsetsSpec)) victimsSubsetsCard

/-- THE TIED CARD OF 'hammocklaw18.VictimsReprieves'. -/
def victimsReprievesCard : Claim7 := { stood := { row := victimsReprievesRow, standIns := [], harness := (true, "fc8d04cf4604458d72450ce80ace9ec7af588b13d77d7a1cd1737c826a4e933d"), looks := true }, kinds := [], alts := [], laidByText := true, laidKinds := [.handle], laidTests := true, laidLooks := .later }
def VictimsReprievesCardSaid : Prop := Claim7.holds Tryz.pinned (.plain (OpenSpec.ofChange victimsReprievesSpec)) victimsReprievesCard

/-- THE TIED CARD OF 'hammocklaw19.ChooseMatchesReference'. -/
def chooseMatchesReferenceCard : Claim7 := { stood := { row := chooseMatchesReferenceRow, standIns := [], harness := (true, "fc8d04cf4604458d72450ce80ace9ec7af588b13d77d7a1cd1737c826a4e933d"), looks := true }, kinds := [], alts := [], laidByText := true, laidKinds := [.handle], laidTests := true, laidLooks := .later }
def ChooseMatchesReferenceCardSaid : Prop := Claim7.holds Tryz.pinned (.plain (OpenSpec.ofChange chooseMatchesReferenceSpec)) chooseMatchesReferenceCard

/-- THE TIED CARD OF 'hammocklaw19.ChooseMinimises'. -/
def chooseMinimisesCard : Claim7 := { stood := { row := chooseMinimisesRow, standIns := [], harness := (true, "fc8d04cf4604458d72450ce80ace9ec7af588b13d77d7a1cd1737c826a4e933d"), looks := true }, kinds := [], alts := [], laidByText := true, laidKinds := [.handle], laidTests := true, laidLooks := .later }
def ChooseMinimisesCardSaid : Prop := Claim7.holds Tryz.pinned (.plain (OpenSpec.ofChange chooseMinimisesSpec)) chooseMinimisesCard

/-- THE TIED CARD OF 'hammocklaw19.ChooseFits'. -/
def chooseFitsCard : Claim7 := { stood := { row := chooseFitsRow, standIns := [], harness := (true, "fc8d04cf4604458d72450ce80ace9ec7af588b13d77d7a1cd1737c826a4e933d"), looks := true }, kinds := [], alts := [], laidByText := true, laidKinds := [.handle], laidTests := true, laidLooks := .later }
def ChooseFitsCardSaid : Prop := Claim7.holds Tryz.pinned (.plain (OpenSpec.ofChange chooseFitsSpec)) chooseFitsCard

/-- THE SECOND FORM's CARD OF 'hammocklaw18.VictimsMatchesReference'. -/
def victimsMatchesReferenceUptoCard : Claim7 := { stood := { row := victimsMatchesReferenceUptoRow, standIns := [], harness := (true, "fc8d04cf4604458d72450ce80ace9ec7af588b13d77d7a1cd1737c826a4e933d"), looks := true }, kinds := [], alts := [], laidByText := true, laidKinds := [.handle], laidTests := true, laidLooks := .later }
def VictimsMatchesReferenceUptoCardSaid : Prop := Claim7.holds Tryz.pinned (.plain (OpenSpec.upto victimsMatchesReferenceSpec)) victimsMatchesReferenceUptoCard

/-- THE SECOND FORM's CARD OF 'hammocklaw18.VictimsMinimal'. -/
def victimsMinimalUptoCard : Claim7 := { stood := { row := victimsMinimalUptoRow, standIns := [], harness := (true, "fc8d04cf4604458d72450ce80ace9ec7af588b13d77d7a1cd1737c826a4e933d"), looks := true }, kinds := [], alts := [], laidByText := true, laidKinds := [.handle], laidTests := true, laidLooks := .later }
def VictimsMinimalUptoCardSaid : Prop := Claim7.holds Tryz.pinned (.plain (OpenSpec.upto victimsMinimalSpec)) victimsMinimalUptoCard

/-- THE SECOND FORM's CARD OF 'hammocklaw18.VictimsChecks'. -/
def victimsChecksUptoCard : Claim7 := { stood := { row := victimsChecksUptoRow, standIns := [], harness := (true, "fc8d04cf4604458d72450ce80ace9ec7af588b13d77d7a1cd1737c826a4e933d"), looks := true }, kinds := [], alts := [], laidByText := true, laidKinds := [.handle], laidTests := true, laidLooks := .later }
def VictimsChecksUptoCardSaid : Prop := Claim7.holds Tryz.pinned (.plain (OpenSpec.upto victimsChecksSpec)) victimsChecksUptoCard

/-- THE SECOND FORM's CARD OF 'hammocklaw18.VictimsSubsets'. -/
def victimsSubsetsUptoCard : Claim7 := { stood := { row := victimsSubsetsUptoRow, standIns := [], harness := (true, "fc8d04cf4604458d72450ce80ace9ec7af588b13d77d7a1cd1737c826a4e933d"), looks := true }, kinds := [], alts := [], laidByText := true, laidKinds := [.handle], laidTests := true, laidLooks := .later }
def VictimsSubsetsUptoCardSaid : Prop := Claim7.holds Tryz.pinned (.plain (OpenSpec.upto victimsSubsetsSpec)) victimsSubsetsUptoCard

/-- THE SECOND FORM's CARD OF 'hammocklaw18.VictimsReprieves'. -/
def victimsReprievesUptoCard : Claim7 := { stood := { row := victimsReprievesUptoRow, standIns := [], harness := (true, "fc8d04cf4604458d72450ce80ace9ec7af588b13d77d7a1cd1737c826a4e933d"), looks := true }, kinds := [], alts := [], laidByText := true, laidKinds := [.handle], laidTests := true, laidLooks := .later }
def VictimsReprievesUptoCardSaid : Prop := Claim7.holds Tryz.pinned (.plain (OpenSpec.upto victimsReprievesSpec)) victimsReprievesUptoCard

/-- THE SECOND FORM's CARD OF 'hammocklaw19.ChooseMatchesReference'. -/
def chooseMatchesReferenceUptoCard : Claim7 := { stood := { row := chooseMatchesReferenceUptoRow, standIns := [], harness := (true, "fc8d04cf4604458d72450ce80ace9ec7af588b13d77d7a1cd1737c826a4e933d"), looks := true }, kinds := [], alts := [], laidByText := true, laidKinds := [.handle], laidTests := true, laidLooks := .later }
def ChooseMatchesReferenceUptoCardSaid : Prop := Claim7.holds Tryz.pinned (.plain (OpenSpec.upto chooseMatchesReferenceSpec)) chooseMatchesReferenceUptoCard

/-- THE SECOND FORM's CARD OF 'hammocklaw19.ChooseMinimises'. -/
def chooseMinimisesUptoCard : Claim7 := { stood := { row := chooseMinimisesUptoRow, standIns := [], harness := (true, "fc8d04cf4604458d72450ce80ace9ec7af588b13d77d7a1cd1737c826a4e933d"), looks := true }, kinds := [], alts := [], laidByText := true, laidKinds := [.handle], laidTests := true, laidLooks := .later }
def ChooseMinimisesUptoCardSaid : Prop := Claim7.holds Tryz.pinned (.plain (OpenSpec.upto chooseMinimisesSpec)) chooseMinimisesUptoCard

/-- THE SECOND FORM's CARD OF 'hammocklaw19.ChooseFits'. -/
def chooseFitsUptoCard : Claim7 := { stood := { row := chooseFitsUptoRow, standIns := [], harness := (true, "fc8d04cf4604458d72450ce80ace9ec7af588b13d77d7a1cd1737c826a4e933d"), looks := true }, kinds := [], alts := [], laidByText := true, laidKinds := [.handle], laidTests := true, laidLooks := .later }
def ChooseFitsUptoCardSaid : Prop := Claim7.holds Tryz.pinned (.plain (OpenSpec.upto chooseFitsSpec)) chooseFitsUptoCard
end Rows
end Go.Proofs.YtmeicgbddgeeoaaGreatDoor
