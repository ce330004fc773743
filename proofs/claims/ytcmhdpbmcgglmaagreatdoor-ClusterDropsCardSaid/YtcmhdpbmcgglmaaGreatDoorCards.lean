/-
  DERIVED. GIVEN WITH THE SEED: THE CARDS: each row of YtcmhdpbmcgglmaaGreatDoorRows.lean that lists a variable, with what it lists TIED to the program's text (the seventh form; the later family's looks); each row that meets fmt, with fmt's text TOLD by the authors' own Lean function (tested against real Go, not proved from fmt's source: count such statements apart). THE CARD IS WHAT COUNTS. Prove the row's statement (the work); the ties are given (YtcmhdpbmcgglmaaGreatDoorTie.lean); close each card by the builder's one call (the guide's Derived/Test/ToyasCard.lean, 'card_holds'). Laid BY PROGRAM, IN A SANDBOX (cutbox-door.mjs). By AI agents, Wed Nov 11 2026. No macro, syntax, notation, axiom, sorry.
-/
import Derived.Test.YtcmhdpbmcgglmaaGreatDoorRows
import GoSem.ClaimSeven
namespace Go.Proofs.YtcmhdpbmcgglmaaGreatDoor
namespace Rows

/-- THE TIED CARD OF 'hammocklaw14.ClusterCapacity'. -/
def clusterCapacityCard : Claim7 := { stood := { row := clusterCapacityRow, standIns := [], harness := (true, "43a1181f6b0f4eafd669db4024f0c43e8d872f702b86bb52af20fd2702309c53"), looks := true }, kinds := [], alts := [], laidByText := true, laidKinds := [.handle], laidTests := true, laidLooks := .later }
def ClusterCapacityCardSaid : Prop := Claim7.holds Tryz.pinned (.plain (OpenSpec.ofChange clusterCapacitySpec)) clusterCapacityCard

/-- THE TIED CARD OF 'hammocklaw14.ClusterFrees'. -/
def clusterFreesCard : Claim7 := { stood := { row := clusterFreesRow, standIns := [], harness := (true, "43a1181f6b0f4eafd669db4024f0c43e8d872f702b86bb52af20fd2702309c53"), looks := true }, kinds := [], alts := [], laidByText := true, laidKinds := [.handle], laidTests := true, laidLooks := .later }
def ClusterFreesCardSaid : Prop := Claim7.holds Tryz.pinned (.plain (OpenSpec.ofChange clusterFreesSpec)) clusterFreesCard

/-- THE TIED CARD OF 'hammocklaw14.ClusterMatchesReference'. -/
def clusterMatchesReferenceCard : Claim7 := { stood := { row := clusterMatchesReferenceRow, standIns := [], harness := (true, "43a1181f6b0f4eafd669db4024f0c43e8d872f702b86bb52af20fd2702309c53"), looks := true }, kinds := [], alts := [], laidByText := true, laidKinds := [.handle], laidTests := true, laidLooks := .later }
def ClusterMatchesReferenceCardSaid : Prop := Claim7.holds Tryz.pinned (.plain (OpenSpec.ofChange clusterMatchesReferenceSpec)) clusterMatchesReferenceCard

/-- THE TIED CARD OF 'hammocklaw14.ClusterErrors'. -/
def clusterErrorsCard : Claim7 := { stood := { row := clusterErrorsRow, standIns := [], harness := (true, "43a1181f6b0f4eafd669db4024f0c43e8d872f702b86bb52af20fd2702309c53"), looks := true }, kinds := [], alts := [], laidByText := true, laidKinds := [.handle], laidTests := true, laidLooks := .later }
def ClusterErrorsCardSaid : Prop := Claim7.holds Tryz.pinned (.plain (OpenSpec.ofChange clusterErrorsSpec)) clusterErrorsCard

/-- THE TIED CARD OF 'hammocklaw14.ClusterDrops'. -/
def clusterDropsCard : Claim7 := { stood := { row := clusterDropsRow, standIns := [], harness := (true, "43a1181f6b0f4eafd669db4024f0c43e8d872f702b86bb52af20fd2702309c53"), looks := true }, kinds := [], alts := [], laidByText := true, laidKinds := [.handle], laidTests := true, laidLooks := .later }
def ClusterDropsCardSaid : Prop := Claim7.holds Tryz.pinned (.plain (OpenSpec.ofChange clusterDropsSpec)) clusterDropsCard

/-- THE TIED CARD OF 'hammocklaw17.FilterParts'. -/
def filterPartsCard : Claim7 := { stood := { row := filterPartsRow, standIns := [], harness := (true, "43a1181f6b0f4eafd669db4024f0c43e8d872f702b86bb52af20fd2702309c53"), looks := true }, kinds := [], alts := [], laidByText := true, laidKinds := [.handle], laidTests := true, laidLooks := .later }
def FilterPartsCardSaid : Prop := Claim7.holds Tryz.pinned (.plain (OpenSpec.ofChange filterPartsSpec)) filterPartsCard

/-- THE TIED CARD OF 'hammocklaw17.FilterSmaller'. -/
def filterSmallerCard : Claim7 := { stood := { row := filterSmallerRow, standIns := [], harness := (true, "43a1181f6b0f4eafd669db4024f0c43e8d872f702b86bb52af20fd2702309c53"), looks := true }, kinds := [], alts := [], laidByText := true, laidKinds := [.handle], laidTests := true, laidLooks := .later }
def FilterSmallerCardSaid : Prop := Claim7.holds Tryz.pinned (.plain (OpenSpec.ofChange filterSmallerSpec)) filterSmallerCard

/-- THE TIED CARD OF 'hammocklaw17.FilterAdds'. -/
def filterAddsCard : Claim7 := { stood := { row := filterAddsRow, standIns := [], harness := (true, "43a1181f6b0f4eafd669db4024f0c43e8d872f702b86bb52af20fd2702309c53"), looks := true }, kinds := [], alts := [], laidByText := true, laidKinds := [.handle], laidTests := true, laidLooks := .later }
def FilterAddsCardSaid : Prop := Claim7.holds Tryz.pinned (.plain (OpenSpec.ofChange filterAddsSpec)) filterAddsCard

/-- THE TIED CARD OF 'hammocklaw17.FilterBinds'. -/
def filterBindsCard : Claim7 := { stood := { row := filterBindsRow, standIns := [], harness := (true, "43a1181f6b0f4eafd669db4024f0c43e8d872f702b86bb52af20fd2702309c53"), looks := true }, kinds := [], alts := [], laidByText := true, laidKinds := [.handle], laidTests := true, laidLooks := .later }
def FilterBindsCardSaid : Prop := Claim7.holds Tryz.pinned (.plain (OpenSpec.ofChange filterBindsSpec)) filterBindsCard

/-- THE SECOND FORM's CARD OF 'hammocklaw14.ClusterCapacity'. -/
def clusterCapacityUptoCard : Claim7 := { stood := { row := clusterCapacityUptoRow, standIns := [], harness := (true, "43a1181f6b0f4eafd669db4024f0c43e8d872f702b86bb52af20fd2702309c53"), looks := true }, kinds := [], alts := [], laidByText := true, laidKinds := [.handle], laidTests := true, laidLooks := .later }
def ClusterCapacityUptoCardSaid : Prop := Claim7.holds Tryz.pinned (.plain (OpenSpec.upto clusterCapacitySpec)) clusterCapacityUptoCard

/-- THE SECOND FORM's CARD OF 'hammocklaw14.ClusterFrees'. -/
def clusterFreesUptoCard : Claim7 := { stood := { row := clusterFreesUptoRow, standIns := [], harness := (true, "43a1181f6b0f4eafd669db4024f0c43e8d872f702b86bb52af20fd2702309c53"), looks := true }, kinds := [], alts := [], laidByText := true, laidKinds := [.handle], laidTests := true, laidLooks := .later }
def ClusterFreesUptoCardSaid : Prop := Claim7.holds Tryz.pinned (.plain (OpenSpec.upto clusterFreesSpec)) clusterFreesUptoCard

/-- THE SECOND FORM's CARD OF 'hammocklaw14.ClusterMatchesReference'. -/
def clusterMatchesReferenceUptoCard : Claim7 := { stood := { row := clusterMatchesReferenceUptoRow, standIns := [], harness := (true, "43a1181f6b0f4eafd669db4024f0c43e8d872f702b86bb52af20fd2702309c53"), looks := true }, kinds := [], alts := [], laidByText := true, laidKinds := [.handle], laidTests := true, laidLooks := .later }
def ClusterMatchesReferenceUptoCardSaid : Prop := Claim7.holds Tryz.pinned (.plain (OpenSpec.upto clusterMatchesReferenceSpec)) clusterMatchesReferenceUptoCard

/-- THE SECOND FORM's CARD OF 'hammocklaw14.ClusterErrors'. -/
def clusterErrorsUptoCard : Claim7 := { stood := { row := clusterErrorsUptoRow, standIns := [], harness := (true, "43a1181f6b0f4eafd669db4024f0c43e8d872f702b86bb52af20fd2702309c53"), looks := true }, kinds := [], alts := [], laidByText := true, laidKinds := [.handle], laidTests := true, laidLooks := .later }
def ClusterErrorsUptoCardSaid : Prop := Claim7.holds Tryz.pinned (.plain (OpenSpec.upto clusterErrorsSpec)) clusterErrorsUptoCard

/-- THE SECOND FORM's CARD OF 'hammocklaw14.ClusterDrops'. -/
def clusterDropsUptoCard : Claim7 := { stood := { row := clusterDropsUptoRow, standIns := [], harness := (true, "43a1181f6b0f4eafd669db4024f0c43e8d872f702b86bb52af20fd2702309c53"), looks := true }, kinds := [], alts := [], laidByText := true, laidKinds := [.handle], laidTests := true, laidLooks := .later }
def ClusterDropsUptoCardSaid : Prop := Claim7.holds Tryz.pinned (.plain (OpenSpec.upto clusterDropsSpec)) clusterDropsUptoCard

/-- THE SECOND FORM's CARD OF 'hammocklaw17.FilterParts'. -/
def filterPartsUptoCard : Claim7 := { stood := { row := filterPartsUptoRow, standIns := [], harness := (true, "43a1181f6b0f4eafd669db4024f0c43e8d872f702b86bb52af20fd2702309c53"), looks := true }, kinds := [], alts := [], laidByText := true, laidKinds := [.handle], laidTests := true, laidLooks := .later }
def FilterPartsUptoCardSaid : Prop := Claim7.holds Tryz.pinned (.plain (OpenSpec.upto filterPartsSpec)) filterPartsUptoCard

/-- THE SECOND FORM's CARD OF 'hammocklaw17.FilterSmaller'. -/
def filterSmallerUptoCard : Claim7 := { stood := { row := filterSmallerUptoRow, standIns := [], harness := (true, "43a1181f6b0f4eafd669db4024f0c43e8d872f702b86bb52af20fd2702309c53"), looks := true }, kinds := [], alts := [], laidByText := true, laidKinds := [.handle], laidTests := true, laidLooks := .later }
def FilterSmallerUptoCardSaid : Prop := Claim7.holds Tryz.pinned (.plain (OpenSpec.upto filterSmallerSpec)) filterSmallerUptoCard

/-- THE SECOND FORM's CARD OF 'hammocklaw17.FilterAdds'. -/
def filterAddsUptoCard : Claim7 := { stood := { row := filterAddsUptoRow, standIns := [], harness := (true, "43a1181f6b0f4eafd669db4024f0c43e8d872f702b86bb52af20fd2702309c53"), looks := true }, kinds := [], alts := [], laidByText := true, laidKinds := [.handle], laidTests := true, laidLooks := .later }
def FilterAddsUptoCardSaid : Prop := Claim7.holds Tryz.pinned (.plain (OpenSpec.upto filterAddsSpec)) filterAddsUptoCard

/-- THE SECOND FORM's CARD OF 'hammocklaw17.FilterBinds'. -/
def filterBindsUptoCard : Claim7 := { stood := { row := filterBindsUptoRow, standIns := [], harness := (true, "43a1181f6b0f4eafd669db4024f0c43e8d872f702b86bb52af20fd2702309c53"), looks := true }, kinds := [], alts := [], laidByText := true, laidKinds := [.handle], laidTests := true, laidLooks := .later }
def FilterBindsUptoCardSaid : Prop := Claim7.holds Tryz.pinned (.plain (OpenSpec.upto filterBindsSpec)) filterBindsUptoCard
end Rows
end Go.Proofs.YtcmhdpbmcgglmaaGreatDoor
