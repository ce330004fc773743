/-
  NARROWER THAN 'FOR EVERY INPUT', by the rows' own cells (each row's printed sentence says how): ClusterCapacity: laid · ClusterFrees: laid · ClusterMatchesReference: laid · ClusterErrors: laid · ClusterDrops: laid · FilterParts: laid · FilterSmaller: laid · FilterAdds: laid · FilterBinds: laid.
  DERIVED. THE GIVEN ROWS OF THIS SEAT. 9 by the template 'for every input the law returns true; each argument reads behind the call as it read before'; 0 by the template 'total and deterministic' (their statements: YtcmhdpbmcgglmaaGreatDoorTotals.lean).
  GIVEN WITH THE SEED: the statements are not yours to turn. If you find one false, say at which input.
  Laid BY PROGRAM, IN A SANDBOX (cutbox-rows.mjs): the forced cells as the released guide's own fill.sh prints them over the translation 843eea606cb481b5… (all of the seat's roots in one cut). By AI agents, Wed Nov 11 2026. No macro, syntax, notation, axiom, sorry.
-/
import Derived.Test.YtcmhdpbmcgglmaaGreatDoorChecked
import GoSem.Claim
import GoSem.ClaimJoined
import GoSem.ClaimMapViews
import Derived.JoinedTies
import Derived.KernelRfl
namespace Go.Proofs.YtcmhdpbmcgglmaaGreatDoor
/- THE CELL 'sum', in the pinned program and in every row, IS THE sha256 OF THE DUMP (.gsa) THAT YtcmhdpbmcgglmaaGreatDoorProg.lean LOADS. Nothing in Lean hashes anything: it is a label: what it is worth is what the hold of that sum in a sandbox is worth. -/
noncomputable def Tryz.pinned : Pinned := { name := "ytcmhdpbmcgglmaagreatdoor", sum := "843eea606cb481b57fdde466272f6939fdbc8f4e8bab9ab128150dc8603f83de", checked := Tryz.checked }
namespace Rows
def none {H : Type} : Left H := { results := [], args := [] }

/- WHAT THE LISTED PACKAGE-LEVEL VARIABLES READ AS WHEN THE CALL BEGINS. Each datum BY PROGRAM (the guide's laid-datum.mjs) off the statement by which the dump's own 'gosem.cut.vars' lays the variable. In a bare row this is a premise. The card (YtcmhdpbmcgglmaaGreatDoorCards.lean) ties it to the program's text. -/
def laid_errors_errorType {H : Type} : DataW H := .iface "internal/reflectlite.rtype" (.agg [.ptr (.lit (.string [101, 114, 114, 111, 114]))])

/-- 'hammocklaw14.ClusterCapacity': WHATEVER THE INPUT: true; the input reads as it did. -/
def clusterCapacitySpec : ChangeSpec := { name := "clusterCapacity", fn := fun _ => fun
  | [d] => { results := [.lit (.bool true)], args := [d] }
  | _ => none }
def clusterCapacityRow : OpenClaim := { program := "ytcmhdpbmcgglmaagreatdoor", sum := "843eea606cb481b57fdde466272f6939fdbc8f4e8bab9ab128150dc8603f83de", func := "hammock/hammocklaw14.ClusterCapacity", spec := "clusterCapacity", inPlace := ["internal/reflectlite.ValueOf", "(internal/reflectlite.Value).Type", "(internal/reflectlite.Value).IsNil", "internal/reflectlite.TypeOf", "(internal/reflectlite.Value).Elem", "(internal/reflectlite.Value).Set", "math/bits.Add64"], unfollowed := true, recurses := true, named := ["errors.errorType"], plainKeys := false, apart := false, laid := [("errors.errorType", laid_errors_errorType)] }
def ClusterCapacitySaid : Prop := clusterCapacityRow.holds Tryz.pinned (OpenSpec.ofChange clusterCapacitySpec)

/-- ITS FALSE NEIGHBOUR: 'it returns false'. Refute it at one input. -/
def clusterCapacityWrong : ChangeSpec := { name := "clusterCapacity", fn := fun _ => fun
  | [d] => { results := [.lit (.bool false)], args := [d] }
  | _ => none }
def ClusterCapacityWrongFalsely : Prop := clusterCapacityRow.holds Tryz.pinned (OpenSpec.ofChange clusterCapacityWrong)

/-- 'hammocklaw14.ClusterFrees': WHATEVER THE INPUT: true; the input reads as it did. -/
def clusterFreesSpec : ChangeSpec := { name := "clusterFrees", fn := fun _ => fun
  | [d1, d2, d3, d4] => { results := [.lit (.bool true)], args := [d1, d2, d3, d4] }
  | _ => none }
def clusterFreesRow : OpenClaim := { program := "ytcmhdpbmcgglmaagreatdoor", sum := "843eea606cb481b57fdde466272f6939fdbc8f4e8bab9ab128150dc8603f83de", func := "hammock/hammocklaw14.ClusterFrees", spec := "clusterFrees", inPlace := ["internal/reflectlite.ValueOf", "(internal/reflectlite.Value).Type", "(internal/reflectlite.Value).IsNil", "internal/reflectlite.TypeOf", "(internal/reflectlite.Value).Elem", "(internal/reflectlite.Value).Set", "math/bits.Add64"], unfollowed := true, recurses := true, named := ["errors.errorType"], plainKeys := false, apart := false, laid := [("errors.errorType", laid_errors_errorType)] }
def ClusterFreesSaid : Prop := clusterFreesRow.holds Tryz.pinned (OpenSpec.ofChange clusterFreesSpec)

/-- ITS FALSE NEIGHBOUR: 'it returns false'. Refute it at one input. -/
def clusterFreesWrong : ChangeSpec := { name := "clusterFrees", fn := fun _ => fun
  | [d1, d2, d3, d4] => { results := [.lit (.bool false)], args := [d1, d2, d3, d4] }
  | _ => none }
def ClusterFreesWrongFalsely : Prop := clusterFreesRow.holds Tryz.pinned (OpenSpec.ofChange clusterFreesWrong)

/-- 'hammocklaw14.ClusterMatchesReference': WHATEVER THE INPUT: true; the input reads as it did. -/
def clusterMatchesReferenceSpec : ChangeSpec := { name := "clusterMatchesReference", fn := fun _ => fun
  | [d1, d2] => { results := [.lit (.bool true)], args := [d1, d2] }
  | _ => none }
def clusterMatchesReferenceRow : OpenClaim := { program := "ytcmhdpbmcgglmaagreatdoor", sum := "843eea606cb481b57fdde466272f6939fdbc8f4e8bab9ab128150dc8603f83de", func := "hammock/hammocklaw14.ClusterMatchesReference", spec := "clusterMatchesReference", inPlace := ["internal/reflectlite.ValueOf", "(internal/reflectlite.Value).Type", "(internal/reflectlite.Value).IsNil", "internal/reflectlite.TypeOf", "(internal/reflectlite.Value).Elem", "(internal/reflectlite.Value).Set", "math/bits.Add64"], unfollowed := true, recurses := true, named := ["errors.errorType"], plainKeys := false, apart := false, laid := [("errors.errorType", laid_errors_errorType)] }
def ClusterMatchesReferenceSaid : Prop := clusterMatchesReferenceRow.holds Tryz.pinned (OpenSpec.ofChange clusterMatchesReferenceSpec)

/-- ITS FALSE NEIGHBOUR: 'it returns false'. Refute it at one input. -/
def clusterMatchesReferenceWrong : ChangeSpec := { name := "clusterMatchesReference", fn := fun _ => fun
  | [d1, d2] => { results := [.lit (.bool false)], args := [d1, d2] }
  | _ => none }
def ClusterMatchesReferenceWrongFalsely : Prop := clusterMatchesReferenceRow.holds Tryz.pinned (OpenSpec.ofChange clusterMatchesReferenceWrong)

/-- 'hammocklaw14.ClusterErrors': WHATEVER THE INPUT: true; the input reads as it did. -/
def clusterErrorsSpec : ChangeSpec := { name := "clusterErrors", fn := fun _ => fun
  | [d1, d2] => { results := [.lit (.bool true)], args := [d1, d2] }
  | _ => none }
def clusterErrorsRow : OpenClaim := { program := "ytcmhdpbmcgglmaagreatdoor", sum := "843eea606cb481b57fdde466272f6939fdbc8f4e8bab9ab128150dc8603f83de", func := "hammock/hammocklaw14.ClusterErrors", spec := "clusterErrors", inPlace := ["internal/reflectlite.ValueOf", "(internal/reflectlite.Value).Type", "(internal/reflectlite.Value).IsNil", "internal/reflectlite.TypeOf", "(internal/reflectlite.Value).Elem", "(internal/reflectlite.Value).Set", "math/bits.Add64"], unfollowed := true, recurses := true, named := ["errors.errorType"], plainKeys := false, apart := false, laid := [("errors.errorType", laid_errors_errorType)] }
def ClusterErrorsSaid : Prop := clusterErrorsRow.holds Tryz.pinned (OpenSpec.ofChange clusterErrorsSpec)

/-- ITS FALSE NEIGHBOUR: 'it returns false'. Refute it at one input. -/
def clusterErrorsWrong : ChangeSpec := { name := "clusterErrors", fn := fun _ => fun
  | [d1, d2] => { results := [.lit (.bool false)], args := [d1, d2] }
  | _ => none }
def ClusterErrorsWrongFalsely : Prop := clusterErrorsRow.holds Tryz.pinned (OpenSpec.ofChange clusterErrorsWrong)

/-- 'hammocklaw14.ClusterDrops': WHATEVER THE INPUT: true; the input reads as it did. -/
def clusterDropsSpec : ChangeSpec := { name := "clusterDrops", fn := fun _ => fun
  | [d1, d2] => { results := [.lit (.bool true)], args := [d1, d2] }
  | _ => none }
def clusterDropsRow : OpenClaim := { program := "ytcmhdpbmcgglmaagreatdoor", sum := "843eea606cb481b57fdde466272f6939fdbc8f4e8bab9ab128150dc8603f83de", func := "hammock/hammocklaw14.ClusterDrops", spec := "clusterDrops", inPlace := ["internal/reflectlite.ValueOf", "(internal/reflectlite.Value).Type", "(internal/reflectlite.Value).IsNil", "internal/reflectlite.TypeOf", "(internal/reflectlite.Value).Elem", "(internal/reflectlite.Value).Set", "math/bits.Add64"], unfollowed := true, recurses := true, named := ["errors.errorType"], plainKeys := false, apart := false, laid := [("errors.errorType", laid_errors_errorType)] }
def ClusterDropsSaid : Prop := clusterDropsRow.holds Tryz.pinned (OpenSpec.ofChange clusterDropsSpec)

/-- ITS FALSE NEIGHBOUR: 'it returns false'. Refute it at one input. -/
def clusterDropsWrong : ChangeSpec := { name := "clusterDrops", fn := fun _ => fun
  | [d1, d2] => { results := [.lit (.bool false)], args := [d1, d2] }
  | _ => none }
def ClusterDropsWrongFalsely : Prop := clusterDropsRow.holds Tryz.pinned (OpenSpec.ofChange clusterDropsWrong)

/-- 'hammocklaw17.FilterParts': WHATEVER THE INPUT: true; the input reads as it did. -/
def filterPartsSpec : ChangeSpec := { name := "filterParts", fn := fun _ => fun
  | [d1, d2, d3] => { results := [.lit (.bool true)], args := [d1, d2, d3] }
  | _ => none }
def filterPartsRow : OpenClaim := { program := "ytcmhdpbmcgglmaagreatdoor", sum := "843eea606cb481b57fdde466272f6939fdbc8f4e8bab9ab128150dc8603f83de", func := "hammock/hammocklaw17.FilterParts", spec := "filterParts", inPlace := ["internal/reflectlite.ValueOf", "(internal/reflectlite.Value).Type", "(internal/reflectlite.Value).IsNil", "internal/reflectlite.TypeOf", "(internal/reflectlite.Value).Elem", "(internal/reflectlite.Value).Set", "math/bits.Add64"], unfollowed := true, recurses := true, named := ["errors.errorType"], plainKeys := false, apart := false, laid := [("errors.errorType", laid_errors_errorType)] }
def FilterPartsSaid : Prop := filterPartsRow.holds Tryz.pinned (OpenSpec.ofChange filterPartsSpec)

/-- ITS FALSE NEIGHBOUR: 'it returns false'. Refute it at one input. -/
def filterPartsWrong : ChangeSpec := { name := "filterParts", fn := fun _ => fun
  | [d1, d2, d3] => { results := [.lit (.bool false)], args := [d1, d2, d3] }
  | _ => none }
def FilterPartsWrongFalsely : Prop := filterPartsRow.holds Tryz.pinned (OpenSpec.ofChange filterPartsWrong)

/-- 'hammocklaw17.FilterSmaller': WHATEVER THE INPUT: true; the input reads as it did. -/
def filterSmallerSpec : ChangeSpec := { name := "filterSmaller", fn := fun _ => fun
  | [d1, d2, d3] => { results := [.lit (.bool true)], args := [d1, d2, d3] }
  | _ => none }
def filterSmallerRow : OpenClaim := { program := "ytcmhdpbmcgglmaagreatdoor", sum := "843eea606cb481b57fdde466272f6939fdbc8f4e8bab9ab128150dc8603f83de", func := "hammock/hammocklaw17.FilterSmaller", spec := "filterSmaller", inPlace := ["internal/reflectlite.ValueOf", "(internal/reflectlite.Value).Type", "(internal/reflectlite.Value).IsNil", "internal/reflectlite.TypeOf", "(internal/reflectlite.Value).Elem", "(internal/reflectlite.Value).Set", "math/bits.Add64"], unfollowed := true, recurses := true, named := ["errors.errorType"], plainKeys := false, apart := false, laid := [("errors.errorType", laid_errors_errorType)] }
def FilterSmallerSaid : Prop := filterSmallerRow.holds Tryz.pinned (OpenSpec.ofChange filterSmallerSpec)

/-- ITS FALSE NEIGHBOUR: 'it returns false'. Refute it at one input. -/
def filterSmallerWrong : ChangeSpec := { name := "filterSmaller", fn := fun _ => fun
  | [d1, d2, d3] => { results := [.lit (.bool false)], args := [d1, d2, d3] }
  | _ => none }
def FilterSmallerWrongFalsely : Prop := filterSmallerRow.holds Tryz.pinned (OpenSpec.ofChange filterSmallerWrong)

/-- 'hammocklaw17.FilterAdds': WHATEVER THE INPUT: true; the input reads as it did. -/
def filterAddsSpec : ChangeSpec := { name := "filterAdds", fn := fun _ => fun
  | [d1, d2, d3, d4] => { results := [.lit (.bool true)], args := [d1, d2, d3, d4] }
  | _ => none }
def filterAddsRow : OpenClaim := { program := "ytcmhdpbmcgglmaagreatdoor", sum := "843eea606cb481b57fdde466272f6939fdbc8f4e8bab9ab128150dc8603f83de", func := "hammock/hammocklaw17.FilterAdds", spec := "filterAdds", inPlace := ["internal/reflectlite.ValueOf", "(internal/reflectlite.Value).Type", "(internal/reflectlite.Value).IsNil", "internal/reflectlite.TypeOf", "(internal/reflectlite.Value).Elem", "(internal/reflectlite.Value).Set", "math/bits.Add64"], unfollowed := true, recurses := true, named := ["errors.errorType"], plainKeys := false, apart := false, laid := [("errors.errorType", laid_errors_errorType)] }
def FilterAddsSaid : Prop := filterAddsRow.holds Tryz.pinned (OpenSpec.ofChange filterAddsSpec)

/-- ITS FALSE NEIGHBOUR: 'it returns false'. Refute it at one input. -/
def filterAddsWrong : ChangeSpec := { name := "filterAdds", fn := fun _ => fun
  | [d1, d2, d3, d4] => { results := [.lit (.bool false)], args := [d1, d2, d3, d4] }
  | _ => none }
def FilterAddsWrongFalsely : Prop := filterAddsRow.holds Tryz.pinned (OpenSpec.ofChange filterAddsWrong)

/-- 'hammocklaw17.FilterBinds': WHATEVER THE INPUT: true; the input reads as it did. -/
def filterBindsSpec : ChangeSpec := { name := "filterBinds", fn := fun _ => fun
  | [d1, d2, d3] => { results := [.lit (.bool true)], args := [d1, d2, d3] }
  | _ => none }
def filterBindsRow : OpenClaim := { program := "ytcmhdpbmcgglmaagreatdoor", sum := "843eea606cb481b57fdde466272f6939fdbc8f4e8bab9ab128150dc8603f83de", func := "hammock/hammocklaw17.FilterBinds", spec := "filterBinds", inPlace := ["internal/reflectlite.ValueOf", "(internal/reflectlite.Value).Type", "(internal/reflectlite.Value).IsNil", "internal/reflectlite.TypeOf", "(internal/reflectlite.Value).Elem", "(internal/reflectlite.Value).Set", "math/bits.Add64"], unfollowed := true, recurses := true, named := ["errors.errorType"], plainKeys := false, apart := false, laid := [("errors.errorType", laid_errors_errorType)] }
def FilterBindsSaid : Prop := filterBindsRow.holds Tryz.pinned (OpenSpec.ofChange filterBindsSpec)

/-- ITS FALSE NEIGHBOUR: 'it returns false'. Refute it at one input. -/
def filterBindsWrong : ChangeSpec := { name := "filterBinds", fn := fun _ => fun
  | [d1, d2, d3] => { results := [.lit (.bool false)], args := [d1, d2, d3] }
  | _ => none }
def FilterBindsWrongFalsely : Prop := filterBindsRow.holds Tryz.pinned (OpenSpec.ofChange filterBindsWrong)

/- THE SECOND FORM. 'bulk': how many values and letters a reading holds, each counted each time it is reached (what is shared counts as often as it is met; a slice's spare places count too). A statement '..UptoSaid' is the law's where the arguments, and the package variables that the reading takes, are together of bulk at most 1048576: NARROWER than '..Said'. Prove '..Said' where nothing that the law and all that it calls make is longer than what came in: it says more and counts as full. Else prove '..UptoSaid'. A law counts once. -/
mutual
def uptoBulk {H : Type} : DataW H → Nat
  | .lit (.string bytes) => bytes.length + 1
  | .lit _ => 1
  | .nil => 1
  | .ptr d => uptoBulk d + 1
  | .slice elems spare => uptoBulkAll elems + uptoBulkAll spare + 1
  | .agg parts => uptoBulkAll parts + 1
  | .iface _ d => uptoBulk d + 1
  | .map entries => uptoBulkEntries entries + 1
  | .held _ => 1
def uptoBulkAll {H : Type} : List (DataW H) → Nat
  | [] => 0
  | d :: r => uptoBulk d + uptoBulkAll r
def uptoBulkEntries {H : Type} : List (Lit × DataW H) → Nat
  | [] => 0
  | x :: r => uptoBulkEntry x + uptoBulkEntries r
def uptoBulkEntry {H : Type} : Lit × DataW H → Nat
  | (.string bytes, d) => bytes.length + uptoBulk d + 1
  | (_, d) => uptoBulk d + 1
 end
def uptoSmall : (H : Type) → List (DataW H) → Bool := fun _ ds => decide (uptoBulkAll ds ≤ 1048576)
def OpenSpec.upto (s : _root_.Go.ChangeSpec) : _root_.Go.OpenSpec := { _root_.Go.OpenSpec.ofChange s with cond := some uptoSmall }

/-- 'hammocklaw14.ClusterCapacity', WHERE WHAT IT READS IS OF BULK AT MOST 1048576: true; the input reads as it did. -/
def clusterCapacityUptoRow : OpenClaim := { program := "ytcmhdpbmcgglmaagreatdoor", sum := "843eea606cb481b57fdde466272f6939fdbc8f4e8bab9ab128150dc8603f83de", func := "hammock/hammocklaw14.ClusterCapacity", spec := "clusterCapacity", inPlace := ["internal/reflectlite.ValueOf", "(internal/reflectlite.Value).Type", "(internal/reflectlite.Value).IsNil", "internal/reflectlite.TypeOf", "(internal/reflectlite.Value).Elem", "(internal/reflectlite.Value).Set", "math/bits.Add64"], unfollowed := true, recurses := true, named := ["errors.errorType"], plainKeys := false, apart := false, laid := [("errors.errorType", laid_errors_errorType)], narrowed := true }
def ClusterCapacityUptoSaid : Prop := clusterCapacityUptoRow.holds Tryz.pinned (OpenSpec.upto clusterCapacitySpec)

/-- 'hammocklaw14.ClusterFrees', WHERE WHAT IT READS IS OF BULK AT MOST 1048576: true; the input reads as it did. -/
def clusterFreesUptoRow : OpenClaim := { program := "ytcmhdpbmcgglmaagreatdoor", sum := "843eea606cb481b57fdde466272f6939fdbc8f4e8bab9ab128150dc8603f83de", func := "hammock/hammocklaw14.ClusterFrees", spec := "clusterFrees", inPlace := ["internal/reflectlite.ValueOf", "(internal/reflectlite.Value).Type", "(internal/reflectlite.Value).IsNil", "internal/reflectlite.TypeOf", "(internal/reflectlite.Value).Elem", "(internal/reflectlite.Value).Set", "math/bits.Add64"], unfollowed := true, recurses := true, named := ["errors.errorType"], plainKeys := false, apart := false, laid := [("errors.errorType", laid_errors_errorType)], narrowed := true }
def ClusterFreesUptoSaid : Prop := clusterFreesUptoRow.holds Tryz.pinned (OpenSpec.upto clusterFreesSpec)

/-- 'hammocklaw14.ClusterMatchesReference', WHERE WHAT IT READS IS OF BULK AT MOST 1048576: true; the input reads as it did. -/
def clusterMatchesReferenceUptoRow : OpenClaim := { program := "ytcmhdpbmcgglmaagreatdoor", sum := "843eea606cb481b57fdde466272f6939fdbc8f4e8bab9ab128150dc8603f83de", func := "hammock/hammocklaw14.ClusterMatchesReference", spec := "clusterMatchesReference", inPlace := ["internal/reflectlite.ValueOf", "(internal/reflectlite.Value).Type", "(internal/reflectlite.Value).IsNil", "internal/reflectlite.TypeOf", "(internal/reflectlite.Value).Elem", "(internal/reflectlite.Value).Set", "math/bits.Add64"], unfollowed := true, recurses := true, named := ["errors.errorType"], plainKeys := false, apart := false, laid := [("errors.errorType", laid_errors_errorType)], narrowed := true }
def ClusterMatchesReferenceUptoSaid : Prop := clusterMatchesReferenceUptoRow.holds Tryz.pinned (OpenSpec.upto clusterMatchesReferenceSpec)

/-- 'hammocklaw14.ClusterErrors', WHERE WHAT IT READS IS OF BULK AT MOST 1048576: true; the input reads as it did. -/
def clusterErrorsUptoRow : OpenClaim := { program := "ytcmhdpbmcgglmaagreatdoor", sum := "843eea606cb481b57fdde466272f6939fdbc8f4e8bab9ab128150dc8603f83de", func := "hammock/hammocklaw14.ClusterErrors", spec := "clusterErrors", inPlace := ["internal/reflectlite.ValueOf", "(internal/reflectlite.Value).Type", "(internal/reflectlite.Value).IsNil", "internal/reflectlite.TypeOf", "(internal/reflectlite.Value).Elem", "(internal/reflectlite.Value).Set", "math/bits.Add64"], unfollowed := true, recurses := true, named := ["errors.errorType"], plainKeys := false, apart := false, laid := [("errors.errorType", laid_errors_errorType)], narrowed := true }
def ClusterErrorsUptoSaid : Prop := clusterErrorsUptoRow.holds Tryz.pinned (OpenSpec.upto clusterErrorsSpec)

/-- 'hammocklaw14.ClusterDrops', WHERE WHAT IT READS IS OF BULK AT MOST 1048576: true; the input reads as it did. -/
def clusterDropsUptoRow : OpenClaim := { program := "ytcmhdpbmcgglmaagreatdoor", sum := "843eea606cb481b57fdde466272f6939fdbc8f4e8bab9ab128150dc8603f83de", func := "hammock/hammocklaw14.ClusterDrops", spec := "clusterDrops", inPlace := ["internal/reflectlite.ValueOf", "(internal/reflectlite.Value).Type", "(internal/reflectlite.Value).IsNil", "internal/reflectlite.TypeOf", "(internal/reflectlite.Value).Elem", "(internal/reflectlite.Value).Set", "math/bits.Add64"], unfollowed := true, recurses := true, named := ["errors.errorType"], plainKeys := false, apart := false, laid := [("errors.errorType", laid_errors_errorType)], narrowed := true }
def ClusterDropsUptoSaid : Prop := clusterDropsUptoRow.holds Tryz.pinned (OpenSpec.upto clusterDropsSpec)

/-- 'hammocklaw17.FilterParts', WHERE WHAT IT READS IS OF BULK AT MOST 1048576: true; the input reads as it did. -/
def filterPartsUptoRow : OpenClaim := { program := "ytcmhdpbmcgglmaagreatdoor", sum := "843eea606cb481b57fdde466272f6939fdbc8f4e8bab9ab128150dc8603f83de", func := "hammock/hammocklaw17.FilterParts", spec := "filterParts", inPlace := ["internal/reflectlite.ValueOf", "(internal/reflectlite.Value).Type", "(internal/reflectlite.Value).IsNil", "internal/reflectlite.TypeOf", "(internal/reflectlite.Value).Elem", "(internal/reflectlite.Value).Set", "math/bits.Add64"], unfollowed := true, recurses := true, named := ["errors.errorType"], plainKeys := false, apart := false, laid := [("errors.errorType", laid_errors_errorType)], narrowed := true }
def FilterPartsUptoSaid : Prop := filterPartsUptoRow.holds Tryz.pinned (OpenSpec.upto filterPartsSpec)

/-- 'hammocklaw17.FilterSmaller', WHERE WHAT IT READS IS OF BULK AT MOST 1048576: true; the input reads as it did. -/
def filterSmallerUptoRow : OpenClaim := { program := "ytcmhdpbmcgglmaagreatdoor", sum := "843eea606cb481b57fdde466272f6939fdbc8f4e8bab9ab128150dc8603f83de", func := "hammock/hammocklaw17.FilterSmaller", spec := "filterSmaller", inPlace := ["internal/reflectlite.ValueOf", "(internal/reflectlite.Value).Type", "(internal/reflectlite.Value).IsNil", "internal/reflectlite.TypeOf", "(internal/reflectlite.Value).Elem", "(internal/reflectlite.Value).Set", "math/bits.Add64"], unfollowed := true, recurses := true, named := ["errors.errorType"], plainKeys := false, apart := false, laid := [("errors.errorType", laid_errors_errorType)], narrowed := true }
def FilterSmallerUptoSaid : Prop := filterSmallerUptoRow.holds Tryz.pinned (OpenSpec.upto filterSmallerSpec)

/-- 'hammocklaw17.FilterAdds', WHERE WHAT IT READS IS OF BULK AT MOST 1048576: true; the input reads as it did. -/
def filterAddsUptoRow : OpenClaim := { program := "ytcmhdpbmcgglmaagreatdoor", sum := "843eea606cb481b57fdde466272f6939fdbc8f4e8bab9ab128150dc8603f83de", func := "hammock/hammocklaw17.FilterAdds", spec := "filterAdds", inPlace := ["internal/reflectlite.ValueOf", "(internal/reflectlite.Value).Type", "(internal/reflectlite.Value).IsNil", "internal/reflectlite.TypeOf", "(internal/reflectlite.Value).Elem", "(internal/reflectlite.Value).Set", "math/bits.Add64"], unfollowed := true, recurses := true, named := ["errors.errorType"], plainKeys := false, apart := false, laid := [("errors.errorType", laid_errors_errorType)], narrowed := true }
def FilterAddsUptoSaid : Prop := filterAddsUptoRow.holds Tryz.pinned (OpenSpec.upto filterAddsSpec)

/-- 'hammocklaw17.FilterBinds', WHERE WHAT IT READS IS OF BULK AT MOST 1048576: true; the input reads as it did. -/
def filterBindsUptoRow : OpenClaim := { program := "ytcmhdpbmcgglmaagreatdoor", sum := "843eea606cb481b57fdde466272f6939fdbc8f4e8bab9ab128150dc8603f83de", func := "hammock/hammocklaw17.FilterBinds", spec := "filterBinds", inPlace := ["internal/reflectlite.ValueOf", "(internal/reflectlite.Value).Type", "(internal/reflectlite.Value).IsNil", "internal/reflectlite.TypeOf", "(internal/reflectlite.Value).Elem", "(internal/reflectlite.Value).Set", "math/bits.Add64"], unfollowed := true, recurses := true, named := ["errors.errorType"], plainKeys := false, apart := false, laid := [("errors.errorType", laid_errors_errorType)], narrowed := true }
def FilterBindsUptoSaid : Prop := filterBindsUptoRow.holds Tryz.pinned (OpenSpec.upto filterBindsSpec)

end Rows
end Go.Proofs.YtcmhdpbmcgglmaaGreatDoor
