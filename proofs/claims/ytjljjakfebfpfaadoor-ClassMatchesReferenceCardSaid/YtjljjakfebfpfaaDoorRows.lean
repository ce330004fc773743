/-
  NARROWER THAN 'FOR EVERY INPUT', by the rows' own cells (each row's printed sentence says how): ClassMatchesReference: laid · ClassPods: laid · ClassApart: laid · ClassHighest: laid · NodeInverse: laid · NodeKeeps: laid.
  DERIVED. THE GIVEN ROWS OF THIS SEAT. 6 by the template 'for every input the law returns true; each argument reads behind the call as it read before'; 0 by the template 'total and deterministic' (their statements: YtjljjakfebfpfaaDoorTotals.lean).
  GIVEN WITH THE SEED: the statements are not yours to turn. If you find one false, say at which input.
  Laid BY PROGRAM, IN A SANDBOX (cutbox-rows.mjs): the forced cells as the released guide's own fill.sh prints them over the translation 14114330e9b9aea2… (all of the seat's roots in one cut). By AI agents, Wed Nov 11 2026. No macro, syntax, notation, axiom, sorry.
-/
import Derived.Test.YtjljjakfebfpfaaDoorChecked
import GoSem.Claim
import GoSem.ClaimJoined
import GoSem.ClaimMapViews
import Derived.JoinedTies
import Derived.KernelRfl
namespace Go.Proofs.YtjljjakfebfpfaaDoor
/- THE CELL 'sum', in the pinned program and in every row, IS THE sha256 OF THE DUMP (.gsa) THAT YtjljjakfebfpfaaDoorProg.lean LOADS. Nothing in Lean hashes anything: it is a label: what it is worth is what the hold of that sum in a sandbox is worth. -/
noncomputable def Tryd.pinned : Pinned := { name := "ytjljjakfebfpfaadoor", sum := "14114330e9b9aea285d9e81716685b3d415d1cb9c5a247bfaab2dae0e338bce4", checked := Tryd.checked }
namespace Rows
def none {H : Type} : Left H := { results := [], args := [] }

/- WHAT THE LISTED PACKAGE-LEVEL VARIABLES READ AS WHEN THE CALL BEGINS. Each datum BY PROGRAM (the guide's laid-datum.mjs) off the statement by which the dump's own 'gosem.cut.vars' lays the variable. In a bare row this is a premise. The card (YtjljjakfebfpfaaDoorCards.lean) ties it to the program's text. -/
def laid_errors_errorType {H : Type} : DataW H := .iface "internal/reflectlite.rtype" (.agg [.ptr (.lit (.string [101, 114, 114, 111, 114]))])

/-- 'hammocklaw11.ClassMatchesReference': WHATEVER THE INPUT: true; the input reads as it did. -/
def classMatchesReferenceSpec : ChangeSpec := { name := "classMatchesReference", fn := fun _ => fun
  | [d1, d2] => { results := [.lit (.bool true)], args := [d1, d2] }
  | _ => none }
def classMatchesReferenceRow : OpenClaim := { program := "ytjljjakfebfpfaadoor", sum := "14114330e9b9aea285d9e81716685b3d415d1cb9c5a247bfaab2dae0e338bce4", func := "hammock/hammocklaw11.ClassMatchesReference", spec := "classMatchesReference", inPlace := ["internal/reflectlite.ValueOf", "(internal/reflectlite.Value).Type", "(internal/reflectlite.Value).IsNil", "internal/reflectlite.TypeOf", "(internal/reflectlite.Value).Elem", "(internal/reflectlite.Value).Set"], unfollowed := true, recurses := true, named := ["errors.errorType"], apart := false, laid := [("errors.errorType", laid_errors_errorType)] }
def ClassMatchesReferenceSaid : Prop := classMatchesReferenceRow.holds Tryd.pinned (OpenSpec.ofChange classMatchesReferenceSpec)

/-- ITS FALSE NEIGHBOUR: 'it returns false'. Refute it at one input. -/
def classMatchesReferenceWrong : ChangeSpec := { name := "classMatchesReference", fn := fun _ => fun
  | [d1, d2] => { results := [.lit (.bool false)], args := [d1, d2] }
  | _ => none }
def ClassMatchesReferenceWrongFalsely : Prop := classMatchesReferenceRow.holds Tryd.pinned (OpenSpec.ofChange classMatchesReferenceWrong)

/-- 'hammocklaw11.ClassPods': WHATEVER THE INPUT: true; the input reads as it did. -/
def classPodsSpec : ChangeSpec := { name := "classPods", fn := fun _ => fun
  | [d1, d2, d3] => { results := [.lit (.bool true)], args := [d1, d2, d3] }
  | _ => none }
def classPodsRow : OpenClaim := { program := "ytjljjakfebfpfaadoor", sum := "14114330e9b9aea285d9e81716685b3d415d1cb9c5a247bfaab2dae0e338bce4", func := "hammock/hammocklaw11.ClassPods", spec := "classPods", inPlace := ["internal/reflectlite.ValueOf", "(internal/reflectlite.Value).Type", "(internal/reflectlite.Value).IsNil", "internal/reflectlite.TypeOf", "(internal/reflectlite.Value).Elem", "(internal/reflectlite.Value).Set"], unfollowed := true, recurses := true, named := ["errors.errorType"], apart := false, laid := [("errors.errorType", laid_errors_errorType)] }
def ClassPodsSaid : Prop := classPodsRow.holds Tryd.pinned (OpenSpec.ofChange classPodsSpec)

/-- ITS FALSE NEIGHBOUR: 'it returns false'. Refute it at one input. -/
def classPodsWrong : ChangeSpec := { name := "classPods", fn := fun _ => fun
  | [d1, d2, d3] => { results := [.lit (.bool false)], args := [d1, d2, d3] }
  | _ => none }
def ClassPodsWrongFalsely : Prop := classPodsRow.holds Tryd.pinned (OpenSpec.ofChange classPodsWrong)

/-- 'hammocklaw11.ClassApart': WHATEVER THE INPUT: true; the input reads as it did. -/
def classApartSpec : ChangeSpec := { name := "classApart", fn := fun _ => fun
  | [d1, d2] => { results := [.lit (.bool true)], args := [d1, d2] }
  | _ => none }
def classApartRow : OpenClaim := { program := "ytjljjakfebfpfaadoor", sum := "14114330e9b9aea285d9e81716685b3d415d1cb9c5a247bfaab2dae0e338bce4", func := "hammock/hammocklaw11.ClassApart", spec := "classApart", inPlace := ["internal/reflectlite.ValueOf", "(internal/reflectlite.Value).Type", "(internal/reflectlite.Value).IsNil", "internal/reflectlite.TypeOf", "(internal/reflectlite.Value).Elem", "(internal/reflectlite.Value).Set"], unfollowed := true, recurses := true, named := ["errors.errorType"], apart := false, laid := [("errors.errorType", laid_errors_errorType)] }
def ClassApartSaid : Prop := classApartRow.holds Tryd.pinned (OpenSpec.ofChange classApartSpec)

/-- ITS FALSE NEIGHBOUR: 'it returns false'. Refute it at one input. -/
def classApartWrong : ChangeSpec := { name := "classApart", fn := fun _ => fun
  | [d1, d2] => { results := [.lit (.bool false)], args := [d1, d2] }
  | _ => none }
def ClassApartWrongFalsely : Prop := classApartRow.holds Tryd.pinned (OpenSpec.ofChange classApartWrong)

/-- 'hammocklaw11.ClassHighest': WHATEVER THE INPUT: true; the input reads as it did. -/
def classHighestSpec : ChangeSpec := { name := "classHighest", fn := fun _ => fun
  | [d] => { results := [.lit (.bool true)], args := [d] }
  | _ => none }
def classHighestRow : OpenClaim := { program := "ytjljjakfebfpfaadoor", sum := "14114330e9b9aea285d9e81716685b3d415d1cb9c5a247bfaab2dae0e338bce4", func := "hammock/hammocklaw11.ClassHighest", spec := "classHighest", inPlace := ["internal/reflectlite.ValueOf", "(internal/reflectlite.Value).Type", "(internal/reflectlite.Value).IsNil", "internal/reflectlite.TypeOf", "(internal/reflectlite.Value).Elem", "(internal/reflectlite.Value).Set"], unfollowed := true, recurses := true, named := ["errors.errorType"], apart := false, laid := [("errors.errorType", laid_errors_errorType)] }
def ClassHighestSaid : Prop := classHighestRow.holds Tryd.pinned (OpenSpec.ofChange classHighestSpec)

/-- ITS FALSE NEIGHBOUR: 'it returns false'. Refute it at one input. -/
def classHighestWrong : ChangeSpec := { name := "classHighest", fn := fun _ => fun
  | [d] => { results := [.lit (.bool false)], args := [d] }
  | _ => none }
def ClassHighestWrongFalsely : Prop := classHighestRow.holds Tryd.pinned (OpenSpec.ofChange classHighestWrong)

/-- 'hammocklaw12.NodeInverse': WHATEVER THE INPUT: true; the input reads as it did. -/
def nodeInverseSpec : ChangeSpec := { name := "nodeInverse", fn := fun _ => fun
  | [d1, d2] => { results := [.lit (.bool true)], args := [d1, d2] }
  | _ => none }
def nodeInverseRow : OpenClaim := { program := "ytjljjakfebfpfaadoor", sum := "14114330e9b9aea285d9e81716685b3d415d1cb9c5a247bfaab2dae0e338bce4", func := "hammock/hammocklaw12.NodeInverse", spec := "nodeInverse", inPlace := ["internal/reflectlite.ValueOf", "(internal/reflectlite.Value).Type", "(internal/reflectlite.Value).IsNil", "internal/reflectlite.TypeOf", "(internal/reflectlite.Value).Elem", "(internal/reflectlite.Value).Set", "math/bits.Add64"], unfollowed := true, recurses := true, named := ["errors.errorType"], apart := false, laid := [("errors.errorType", laid_errors_errorType)] }
def NodeInverseSaid : Prop := nodeInverseRow.holds Tryd.pinned (OpenSpec.ofChange nodeInverseSpec)

/-- ITS FALSE NEIGHBOUR: 'it returns false'. Refute it at one input. -/
def nodeInverseWrong : ChangeSpec := { name := "nodeInverse", fn := fun _ => fun
  | [d1, d2] => { results := [.lit (.bool false)], args := [d1, d2] }
  | _ => none }
def NodeInverseWrongFalsely : Prop := nodeInverseRow.holds Tryd.pinned (OpenSpec.ofChange nodeInverseWrong)

/-- 'hammocklaw12.NodeKeeps': WHATEVER THE INPUT: true; the input reads as it did. -/
def nodeKeepsSpec : ChangeSpec := { name := "nodeKeeps", fn := fun _ => fun
  | [d1, d2] => { results := [.lit (.bool true)], args := [d1, d2] }
  | _ => none }
def nodeKeepsRow : OpenClaim := { program := "ytjljjakfebfpfaadoor", sum := "14114330e9b9aea285d9e81716685b3d415d1cb9c5a247bfaab2dae0e338bce4", func := "hammock/hammocklaw12.NodeKeeps", spec := "nodeKeeps", inPlace := ["internal/reflectlite.ValueOf", "(internal/reflectlite.Value).Type", "(internal/reflectlite.Value).IsNil", "internal/reflectlite.TypeOf", "(internal/reflectlite.Value).Elem", "(internal/reflectlite.Value).Set", "math/bits.Add64"], unfollowed := true, recurses := true, named := ["errors.errorType"], apart := false, laid := [("errors.errorType", laid_errors_errorType)] }
def NodeKeepsSaid : Prop := nodeKeepsRow.holds Tryd.pinned (OpenSpec.ofChange nodeKeepsSpec)

/-- ITS FALSE NEIGHBOUR: 'it returns false'. Refute it at one input. -/
def nodeKeepsWrong : ChangeSpec := { name := "nodeKeeps", fn := fun _ => fun
  | [d1, d2] => { results := [.lit (.bool false)], args := [d1, d2] }
  | _ => none }
def NodeKeepsWrongFalsely : Prop := nodeKeepsRow.holds Tryd.pinned (OpenSpec.ofChange nodeKeepsWrong)

/- THE SECOND FORM. 'bulk': how many values and letters a reading holds, each counted each time it is reached (what is shared counts as often as it is met; a slice's spare places count too). A statement '..UptoSaid' is the law's where the arguments, and the package variables that the reading takes, are together of bulk at most 1048576: NARROWER than '..Said'. Prove '..Said' where nothing that the law and all that it calls make is longer than what came in: it says more and counts as full. Else prove '..UptoSaid'. A law counts once. -/
mutual
def uptoBulk {H : Type} : DataW H → Nat
  | .lit (.string bytes) => bytes.length + 1
  | .lit _ => 1
  | .nil => 1
  | .ptr d => uptoBulk d + 1
  | .slice elems spare => uptoBulkAll elems + uptoBulkAll spare + 1
  | .agg parts => uptoBulkAll parts + 1
  | .iface _ d => uptoBulk d + 1
  | .map entries => uptoBulkEntries entries + 1
  | .held _ => 1
def uptoBulkAll {H : Type} : List (DataW H) → Nat
  | [] => 0
  | d :: r => uptoBulk d + uptoBulkAll r
def uptoBulkEntries {H : Type} : List (Lit × DataW H) → Nat
  | [] => 0
  | x :: r => uptoBulkEntry x + uptoBulkEntries r
def uptoBulkEntry {H : Type} : Lit × DataW H → Nat
  | (.string bytes, d) => bytes.length + uptoBulk d + 1
  | (_, d) => uptoBulk d + 1
 end
def uptoSmall : (H : Type) → List (DataW H) → Bool := fun _ ds => decide (uptoBulkAll ds ≤ 1048576)
def OpenSpec.upto (s : _root_.Go.ChangeSpec) : _root_.Go.OpenSpec := { _root_.Go.OpenSpec.ofChange s with cond := some uptoSmall }

/-- 'hammocklaw11.ClassMatchesReference', WHERE WHAT IT READS IS OF BULK AT MOST 1048576: true; the input reads as it did. -/
def classMatchesReferenceUptoRow : OpenClaim := { program := "ytjljjakfebfpfaadoor", sum := "14114330e9b9aea285d9e81716685b3d415d1cb9c5a247bfaab2dae0e338bce4", func := "hammock/hammocklaw11.ClassMatchesReference", spec := "classMatchesReference", inPlace := ["internal/reflectlite.ValueOf", "(internal/reflectlite.Value).Type", "(internal/reflectlite.Value).IsNil", "internal/reflectlite.TypeOf", "(internal/reflectlite.Value).Elem", "(internal/reflectlite.Value).Set"], unfollowed := true, recurses := true, named := ["errors.errorType"], apart := false, laid := [("errors.errorType", laid_errors_errorType)], narrowed := true }
def ClassMatchesReferenceUptoSaid : Prop := classMatchesReferenceUptoRow.holds Tryd.pinned (OpenSpec.upto classMatchesReferenceSpec)

/-- 'hammocklaw11.ClassPods', WHERE WHAT IT READS IS OF BULK AT MOST 1048576: true; the input reads as it did. -/
def classPodsUptoRow : OpenClaim := { program := "ytjljjakfebfpfaadoor", sum := "14114330e9b9aea285d9e81716685b3d415d1cb9c5a247bfaab2dae0e338bce4", func := "hammock/hammocklaw11.ClassPods", spec := "classPods", inPlace := ["internal/reflectlite.ValueOf", "(internal/reflectlite.Value).Type", "(internal/reflectlite.Value).IsNil", "internal/reflectlite.TypeOf", "(internal/reflectlite.Value).Elem", "(internal/reflectlite.Value).Set"], unfollowed := true, recurses := true, named := ["errors.errorType"], apart := false, laid := [("errors.errorType", laid_errors_errorType)], narrowed := true }
def ClassPodsUptoSaid : Prop := classPodsUptoRow.holds Tryd.pinned (OpenSpec.upto classPodsSpec)

/-- 'hammocklaw11.ClassApart', WHERE WHAT IT READS IS OF BULK AT MOST 1048576: true; the input reads as it did. -/
def classApartUptoRow : OpenClaim := { program := "ytjljjakfebfpfaadoor", sum := "14114330e9b9aea285d9e81716685b3d415d1cb9c5a247bfaab2dae0e338bce4", func := "hammock/hammocklaw11.ClassApart", spec := "classApart", inPlace := ["internal/reflectlite.ValueOf", "(internal/reflectlite.Value).Type", "(internal/reflectlite.Value).IsNil", "internal/reflectlite.TypeOf", "(internal/reflectlite.Value).Elem", "(internal/reflectlite.Value).Set"], unfollowed := true, recurses := true, named := ["errors.errorType"], apart := false, laid := [("errors.errorType", laid_errors_errorType)], narrowed := true }
def ClassApartUptoSaid : Prop := classApartUptoRow.holds Tryd.pinned (OpenSpec.upto classApartSpec)

/-- 'hammocklaw11.ClassHighest', WHERE WHAT IT READS IS OF BULK AT MOST 1048576: true; the input reads as it did. -/
def classHighestUptoRow : OpenClaim := { program := "ytjljjakfebfpfaadoor", sum := "14114330e9b9aea285d9e81716685b3d415d1cb9c5a247bfaab2dae0e338bce4", func := "hammock/hammocklaw11.ClassHighest", spec := "classHighest", inPlace := ["internal/reflectlite.ValueOf", "(internal/reflectlite.Value).Type", "(internal/reflectlite.Value).IsNil", "internal/reflectlite.TypeOf", "(internal/reflectlite.Value).Elem", "(internal/reflectlite.Value).Set"], unfollowed := true, recurses := true, named := ["errors.errorType"], apart := false, laid := [("errors.errorType", laid_errors_errorType)], narrowed := true }
def ClassHighestUptoSaid : Prop := classHighestUptoRow.holds Tryd.pinned (OpenSpec.upto classHighestSpec)

/-- 'hammocklaw12.NodeInverse', WHERE WHAT IT READS IS OF BULK AT MOST 1048576: true; the input reads as it did. -/
def nodeInverseUptoRow : OpenClaim := { program := "ytjljjakfebfpfaadoor", sum := "14114330e9b9aea285d9e81716685b3d415d1cb9c5a247bfaab2dae0e338bce4", func := "hammock/hammocklaw12.NodeInverse", spec := "nodeInverse", inPlace := ["internal/reflectlite.ValueOf", "(internal/reflectlite.Value).Type", "(internal/reflectlite.Value).IsNil", "internal/reflectlite.TypeOf", "(internal/reflectlite.Value).Elem", "(internal/reflectlite.Value).Set", "math/bits.Add64"], unfollowed := true, recurses := true, named := ["errors.errorType"], apart := false, laid := [("errors.errorType", laid_errors_errorType)], narrowed := true }
def NodeInverseUptoSaid : Prop := nodeInverseUptoRow.holds Tryd.pinned (OpenSpec.upto nodeInverseSpec)

/-- 'hammocklaw12.NodeKeeps', WHERE WHAT IT READS IS OF BULK AT MOST 1048576: true; the input reads as it did. -/
def nodeKeepsUptoRow : OpenClaim := { program := "ytjljjakfebfpfaadoor", sum := "14114330e9b9aea285d9e81716685b3d415d1cb9c5a247bfaab2dae0e338bce4", func := "hammock/hammocklaw12.NodeKeeps", spec := "nodeKeeps", inPlace := ["internal/reflectlite.ValueOf", "(internal/reflectlite.Value).Type", "(internal/reflectlite.Value).IsNil", "internal/reflectlite.TypeOf", "(internal/reflectlite.Value).Elem", "(internal/reflectlite.Value).Set", "math/bits.Add64"], unfollowed := true, recurses := true, named := ["errors.errorType"], apart := false, laid := [("errors.errorType", laid_errors_errorType)], narrowed := true }
def NodeKeepsUptoSaid : Prop := nodeKeepsUptoRow.holds Tryd.pinned (OpenSpec.upto nodeKeepsSpec)

end Rows
end Go.Proofs.YtjljjakfebfpfaaDoor
