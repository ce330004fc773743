/-
  No cell of these rows narrows 'for every input' (looked for: loops, veiled, ifaces, maps, wideKeys, modest, calm, conditions, laid).
  DERIVED. THE GIVEN ROWS OF THIS SEAT. 6 by the template 'for every input the law returns true; each argument reads behind the call as it read before'; 0 by the template 'total and deterministic' (their statements: YtmbkemofejpnfaaTotals.lean).
  GIVEN WITH THE SEED: the statements are not yours to turn. If you find one false, say at which input.
  Laid BY PROGRAM, IN A SANDBOX (cutbox-rows.mjs): the forced cells as the released guide's own fill.sh prints them over the translation a541b7c9a2a84010… (all of the seat's roots in one cut). By AI agents, Wed Nov 11 2026. No macro, syntax, notation, axiom, sorry.
-/
import Derived.Test.YtmbkemofejpnfaaChecked
import GoSem.Claim
import GoSem.ClaimJoined
import GoSem.ClaimMapViews
import Derived.JoinedTies
import Derived.KernelRfl
namespace Go.Proofs.Ytmbkemofejpnfaa
/- THE CELL 'sum', in the pinned program and in every row, IS THE sha256 OF THE DUMP (.gsa) THAT YtmbkemofejpnfaaProg.lean LOADS. Nothing in Lean hashes anything: it is a label: what it is worth is what the hold of that sum in a sandbox is worth. -/
noncomputable def Try.pinned : Pinned := { name := "ytmbkemofejpnfaa", sum := "a541b7c9a2a8401040aedfda73ccb1e767da7381d7c7ccb1a66da4d2e8b26908", checked := Try.checked }
namespace Rows
def none {H : Type} : Left H := { results := [], args := [] }

/-- 'hammocklaw01.VecMatchesReference': WHATEVER THE INPUT: true; the input reads as it did. -/
def vecMatchesReferenceSpec : ChangeSpec := { name := "vecMatchesReference", fn := fun _ => fun
  | [d] => { results := [.lit (.bool true)], args := [d] }
  | _ => none }
def vecMatchesReferenceRow : OpenClaim := { program := "ytmbkemofejpnfaa", sum := "a541b7c9a2a8401040aedfda73ccb1e767da7381d7c7ccb1a66da4d2e8b26908", func := "hammock/hammocklaw01.VecMatchesReference", spec := "vecMatchesReference", inPlace := ["math/bits.Add64"], unfollowed := true, recurses := true, apart := false }
def VecMatchesReferenceSaid : Prop := vecMatchesReferenceRow.holds Try.pinned (OpenSpec.ofChange vecMatchesReferenceSpec)

/-- ITS FALSE NEIGHBOUR: 'it returns false'. Refute it at one input. -/
def vecMatchesReferenceWrong : ChangeSpec := { name := "vecMatchesReference", fn := fun _ => fun
  | [d] => { results := [.lit (.bool false)], args := [d] }
  | _ => none }
def VecMatchesReferenceWrongFalsely : Prop := vecMatchesReferenceRow.holds Try.pinned (OpenSpec.ofChange vecMatchesReferenceWrong)

/-- 'hammocklaw01.VecInverse': WHATEVER THE INPUT: true; the input reads as it did. -/
def vecInverseSpec : ChangeSpec := { name := "vecInverse", fn := fun _ => fun
  | [d1, d2] => { results := [.lit (.bool true)], args := [d1, d2] }
  | _ => none }
def vecInverseRow : OpenClaim := { program := "ytmbkemofejpnfaa", sum := "a541b7c9a2a8401040aedfda73ccb1e767da7381d7c7ccb1a66da4d2e8b26908", func := "hammock/hammocklaw01.VecInverse", spec := "vecInverse", inPlace := ["math/bits.Add64"], unfollowed := true, recurses := true, apart := false }
def VecInverseSaid : Prop := vecInverseRow.holds Try.pinned (OpenSpec.ofChange vecInverseSpec)

/-- ITS FALSE NEIGHBOUR: 'it returns false'. Refute it at one input. -/
def vecInverseWrong : ChangeSpec := { name := "vecInverse", fn := fun _ => fun
  | [d1, d2] => { results := [.lit (.bool false)], args := [d1, d2] }
  | _ => none }
def VecInverseWrongFalsely : Prop := vecInverseRow.holds Try.pinned (OpenSpec.ofChange vecInverseWrong)

/-- 'hammocklaw01.VecValid': WHATEVER THE INPUT: true; the input reads as it did. -/
def vecValidSpec : ChangeSpec := { name := "vecValid", fn := fun _ => fun
  | [d1, d2] => { results := [.lit (.bool true)], args := [d1, d2] }
  | _ => none }
def vecValidRow : OpenClaim := { program := "ytmbkemofejpnfaa", sum := "a541b7c9a2a8401040aedfda73ccb1e767da7381d7c7ccb1a66da4d2e8b26908", func := "hammock/hammocklaw01.VecValid", spec := "vecValid", inPlace := ["math/bits.Add64"], unfollowed := true, recurses := true, apart := false }
def VecValidSaid : Prop := vecValidRow.holds Try.pinned (OpenSpec.ofChange vecValidSpec)

/-- ITS FALSE NEIGHBOUR: 'it returns false'. Refute it at one input. -/
def vecValidWrong : ChangeSpec := { name := "vecValid", fn := fun _ => fun
  | [d1, d2] => { results := [.lit (.bool false)], args := [d1, d2] }
  | _ => none }
def VecValidWrongFalsely : Prop := vecValidRow.holds Try.pinned (OpenSpec.ofChange vecValidWrong)

/-- 'hammocklaw01.VecOrder': WHATEVER THE INPUT: true; the input reads as it did. -/
def vecOrderSpec : ChangeSpec := { name := "vecOrder", fn := fun _ => fun
  | [d1, d2, d3] => { results := [.lit (.bool true)], args := [d1, d2, d3] }
  | _ => none }
def vecOrderRow : OpenClaim := { program := "ytmbkemofejpnfaa", sum := "a541b7c9a2a8401040aedfda73ccb1e767da7381d7c7ccb1a66da4d2e8b26908", func := "hammock/hammocklaw01.VecOrder", spec := "vecOrder", inPlace := ["math/bits.Add64"], unfollowed := true, recurses := true, apart := false }
def VecOrderSaid : Prop := vecOrderRow.holds Try.pinned (OpenSpec.ofChange vecOrderSpec)

/-- ITS FALSE NEIGHBOUR: 'it returns false'. Refute it at one input. -/
def vecOrderWrong : ChangeSpec := { name := "vecOrder", fn := fun _ => fun
  | [d1, d2, d3] => { results := [.lit (.bool false)], args := [d1, d2, d3] }
  | _ => none }
def VecOrderWrongFalsely : Prop := vecOrderRow.holds Try.pinned (OpenSpec.ofChange vecOrderWrong)

/-- 'hammocklaw01.VecLists': WHATEVER THE INPUT: true; the input reads as it did. -/
def vecListsSpec : ChangeSpec := { name := "vecLists", fn := fun _ => fun
  | [d1, d2] => { results := [.lit (.bool true)], args := [d1, d2] }
  | _ => none }
def vecListsRow : OpenClaim := { program := "ytmbkemofejpnfaa", sum := "a541b7c9a2a8401040aedfda73ccb1e767da7381d7c7ccb1a66da4d2e8b26908", func := "hammock/hammocklaw01.VecLists", spec := "vecLists", inPlace := ["math/bits.Add64"], unfollowed := true, recurses := true, apart := false }
def VecListsSaid : Prop := vecListsRow.holds Try.pinned (OpenSpec.ofChange vecListsSpec)

/-- ITS FALSE NEIGHBOUR: 'it returns false'. Refute it at one input. -/
def vecListsWrong : ChangeSpec := { name := "vecLists", fn := fun _ => fun
  | [d1, d2] => { results := [.lit (.bool false)], args := [d1, d2] }
  | _ => none }
def VecListsWrongFalsely : Prop := vecListsRow.holds Try.pinned (OpenSpec.ofChange vecListsWrong)

/-- 'hammocklaw01.VecCompares': WHATEVER THE INPUT: true; the input reads as it did. -/
def vecComparesSpec : ChangeSpec := { name := "vecCompares", fn := fun _ => fun
  | [d1, d2] => { results := [.lit (.bool true)], args := [d1, d2] }
  | _ => none }
def vecComparesRow : OpenClaim := { program := "ytmbkemofejpnfaa", sum := "a541b7c9a2a8401040aedfda73ccb1e767da7381d7c7ccb1a66da4d2e8b26908", func := "hammock/hammocklaw01.VecCompares", spec := "vecCompares", inPlace := ["math/bits.Add64"], unfollowed := true, recurses := true, apart := false }
def VecComparesSaid : Prop := vecComparesRow.holds Try.pinned (OpenSpec.ofChange vecComparesSpec)

/-- ITS FALSE NEIGHBOUR: 'it returns false'. Refute it at one input. -/
def vecComparesWrong : ChangeSpec := { name := "vecCompares", fn := fun _ => fun
  | [d1, d2] => { results := [.lit (.bool false)], args := [d1, d2] }
  | _ => none }
def VecComparesWrongFalsely : Prop := vecComparesRow.holds Try.pinned (OpenSpec.ofChange vecComparesWrong)

/- THE SECOND FORM. 'bulk': how many values and letters a reading holds, each counted each time it is reached (what is shared counts as often as it is met; a slice's spare places count too). A statement '..UptoSaid' is the law's where the arguments, and the package variables that the reading takes, are together of bulk at most 1048576: NARROWER than '..Said'. Prove '..Said' where nothing that the law and all that it calls make is longer than what came in: it says more and counts as full. Else prove '..UptoSaid'. A law counts once. -/
mutual
def uptoBulk {H : Type} : DataW H → Nat
  | .lit (.string bytes) => bytes.length + 1
  | .lit _ => 1
  | .nil => 1
  | .ptr d => uptoBulk d + 1
  | .slice elems spare => uptoBulkAll elems + uptoBulkAll spare + 1
  | .agg parts => uptoBulkAll parts + 1
  | .iface _ d => uptoBulk d + 1
  | .map entries => uptoBulkEntries entries + 1
  | .held _ => 1
def uptoBulkAll {H : Type} : List (DataW H) → Nat
  | [] => 0
  | d :: r => uptoBulk d + uptoBulkAll r
def uptoBulkEntries {H : Type} : List (Lit × DataW H) → Nat
  | [] => 0
  | x :: r => uptoBulkEntry x + uptoBulkEntries r
def uptoBulkEntry {H : Type} : Lit × DataW H → Nat
  | (.string bytes, d) => bytes.length + uptoBulk d + 1
  | (_, d) => uptoBulk d + 1
 end
def uptoSmall : (H : Type) → List (DataW H) → Bool := fun _ ds => decide (uptoBulkAll ds ≤ 1048576)
def OpenSpec.upto (s : _root_.Go.ChangeSpec) : _root_.Go.OpenSpec := { _root_.Go.OpenSpec.ofChange s with cond := some uptoSmall }

/-- 'hammocklaw01.VecMatchesReference', WHERE WHAT IT READS IS OF BULK AT MOST 1048576: true; the input reads as it did. -/
def vecMatchesReferenceUptoRow : OpenClaim := { program := "ytmbkemofejpnfaa", sum := "a541b7c9a2a8401040aedfda73ccb1e767da7381d7c7ccb1a66da4d2e8b26908", func := "hammock/hammocklaw01.VecMatchesReference", spec := "vecMatchesReference", inPlace := ["math/bits.Add64"], unfollowed := true, recurses := true, apart := false, narrowed := true }
def VecMatchesReferenceUptoSaid : Prop := vecMatchesReferenceUptoRow.holds Try.pinned (OpenSpec.upto vecMatchesReferenceSpec)

/-- 'hammocklaw01.VecInverse', WHERE WHAT IT READS IS OF BULK AT MOST 1048576: true; the input reads as it did. -/
def vecInverseUptoRow : OpenClaim := { program := "ytmbkemofejpnfaa", sum := "a541b7c9a2a8401040aedfda73ccb1e767da7381d7c7ccb1a66da4d2e8b26908", func := "hammock/hammocklaw01.VecInverse", spec := "vecInverse", inPlace := ["math/bits.Add64"], unfollowed := true, recurses := true, apart := false, narrowed := true }
def VecInverseUptoSaid : Prop := vecInverseUptoRow.holds Try.pinned (OpenSpec.upto vecInverseSpec)

/-- 'hammocklaw01.VecValid', WHERE WHAT IT READS IS OF BULK AT MOST 1048576: true; the input reads as it did. -/
def vecValidUptoRow : OpenClaim := { program := "ytmbkemofejpnfaa", sum := "a541b7c9a2a8401040aedfda73ccb1e767da7381d7c7ccb1a66da4d2e8b26908", func := "hammock/hammocklaw01.VecValid", spec := "vecValid", inPlace := ["math/bits.Add64"], unfollowed := true, recurses := true, apart := false, narrowed := true }
def VecValidUptoSaid : Prop := vecValidUptoRow.holds Try.pinned (OpenSpec.upto vecValidSpec)

/-- 'hammocklaw01.VecOrder', WHERE WHAT IT READS IS OF BULK AT MOST 1048576: true; the input reads as it did. -/
def vecOrderUptoRow : OpenClaim := { program := "ytmbkemofejpnfaa", sum := "a541b7c9a2a8401040aedfda73ccb1e767da7381d7c7ccb1a66da4d2e8b26908", func := "hammock/hammocklaw01.VecOrder", spec := "vecOrder", inPlace := ["math/bits.Add64"], unfollowed := true, recurses := true, apart := false, narrowed := true }
def VecOrderUptoSaid : Prop := vecOrderUptoRow.holds Try.pinned (OpenSpec.upto vecOrderSpec)

/-- 'hammocklaw01.VecLists', WHERE WHAT IT READS IS OF BULK AT MOST 1048576: true; the input reads as it did. -/
def vecListsUptoRow : OpenClaim := { program := "ytmbkemofejpnfaa", sum := "a541b7c9a2a8401040aedfda73ccb1e767da7381d7c7ccb1a66da4d2e8b26908", func := "hammock/hammocklaw01.VecLists", spec := "vecLists", inPlace := ["math/bits.Add64"], unfollowed := true, recurses := true, apart := false, narrowed := true }
def VecListsUptoSaid : Prop := vecListsUptoRow.holds Try.pinned (OpenSpec.upto vecListsSpec)

/-- 'hammocklaw01.VecCompares', WHERE WHAT IT READS IS OF BULK AT MOST 1048576: true; the input reads as it did. -/
def vecComparesUptoRow : OpenClaim := { program := "ytmbkemofejpnfaa", sum := "a541b7c9a2a8401040aedfda73ccb1e767da7381d7c7ccb1a66da4d2e8b26908", func := "hammock/hammocklaw01.VecCompares", spec := "vecCompares", inPlace := ["math/bits.Add64"], unfollowed := true, recurses := true, apart := false, narrowed := true }
def VecComparesUptoSaid : Prop := vecComparesUptoRow.holds Try.pinned (OpenSpec.upto vecComparesSpec)

end Rows
end Go.Proofs.Ytmbkemofejpnfaa
