/-
  NARROWER THAN 'FOR EVERY INPUT', by the rows' own cells (each row's printed sentence says how): VictimsMatchesReference: laid · VictimsMinimal: laid · VictimsChecks: laid · VictimsSubsets: laid · VictimsReprieves: laid · ChooseMatchesReference: laid · ChooseMinimises: laid · ChooseFits: laid.
  DERIVED. THE GIVEN ROWS OF THIS SEAT. 8 by the template 'for every input the law returns true; each argument reads behind the call as it read before'; 0 by the template 'total and deterministic' (their statements: YtmeicgbddgeeoaaGreatDoorTotals.lean).
  GIVEN WITH THE SEED: the statements are not yours to turn. If you find one false, say at which input.
  Laid BY PROGRAM, IN A SANDBOX (cutbox-rows.mjs): the forced cells as the released guide's own fill.sh prints them over the translation 4e7a36ff4c9b99eb… (all of the seat's roots in one cut). By AI agents, Wed Nov 11 2026. No macro, syntax, notation, axiom, sorry.
-/
import Derived.Test.YtmeicgbddgeeoaaGreatDoorChecked
import GoSem.Claim
import GoSem.ClaimJoined
import GoSem.ClaimMapViews
import Derived.JoinedTies
import Derived.KernelRfl
namespace Go.Proofs.YtmeicgbddgeeoaaGreatDoor
/- THE CELL 'sum', in the pinned program and in every row, IS THE sha256 OF THE DUMP (.gsa) THAT YtmeicgbddgeeoaaGreatDoorProg.lean LOADS. Nothing in Lean hashes anything: it is a label: what it is worth is what the hold of that sum in a sandbox is worth. -/
noncomputable def Tryz.pinned : Pinned := { name := "ytmeicgbddgeeoaagreatdoor", sum := "4e7a36ff4c9b99eb5cff79fe8f0ba51a8a3d68f556c77e0bc28dc86fd597c547", checked := Tryz.checked }
namespace Rows
def none {H : Type} : Left H := { results := [], args := [] }

/- WHAT THE LISTED PACKAGE-LEVEL VARIABLES READ AS WHEN THE CALL BEGINS. Each datum BY PROGRAM (the guide's laid-datum.mjs) off the statement by which the dump's own 'gosem.cut.vars' lays the variable. In a bare row this is a premise. The card (YtmeicgbddgeeoaaGreatDoorCards.lean) ties it to the program's text. -/
def laid_errors_errorType {H : Type} : DataW H := .iface "internal/reflectlite.rtype" (.agg [.ptr (.lit (.string [101, 114, 114, 111, 114]))])

/-- 'hammocklaw18.VictimsMatchesReference': WHATEVER THE INPUT: true; the input reads as it did. -/
def victimsMatchesReferenceSpec : ChangeSpec := { name := "victimsMatchesReference", fn := fun _ => fun
  | [d1, d2, d3, d4] => { results := [.lit (.bool true)], args := [d1, d2, d3, d4] }
  | _ => none }
def victimsMatchesReferenceRow : OpenClaim := { program := "ytmeicgbddgeeoaagreatdoor", sum := "4e7a36ff4c9b99eb5cff79fe8f0ba51a8a3d68f556c77e0bc28dc86fd597c547", func := "hammock/hammocklaw18.VictimsMatchesReference", spec := "victimsMatchesReference", inPlace := ["internal/reflectlite.ValueOf", "(internal/reflectlite.Value).Type", "(internal/reflectlite.Value).IsNil", "internal/reflectlite.TypeOf", "(internal/reflectlite.Value).Elem", "(internal/reflectlite.Value).Set", "math/bits.Add64"], unfollowed := true, recurses := true, named := ["errors.errorType"], plainKeys := false, apart := false, laid := [("errors.errorType", laid_errors_errorType)] }
def VictimsMatchesReferenceSaid : Prop := victimsMatchesReferenceRow.holds Tryz.pinned (OpenSpec.ofChange victimsMatchesReferenceSpec)

/-- ITS FALSE NEIGHBOUR: 'it returns false'. Refute it at one input. -/
def victimsMatchesReferenceWrong : ChangeSpec := { name := "victimsMatchesReference", fn := fun _ => fun
  | [d1, d2, d3, d4] => { results := [.lit (.bool false)], args := [d1, d2, d3, d4] }
  | _ => none }
def VictimsMatchesReferenceWrongFalsely : Prop := victimsMatchesReferenceRow.holds Tryz.pinned (OpenSpec.ofChange victimsMatchesReferenceWrong)

/-- 'hammocklaw18.VictimsMinimal': WHATEVER THE INPUT: true; the input reads as it did. -/
def victimsMinimalSpec : ChangeSpec := { name := "victimsMinimal", fn := fun _ => fun
  | [d1, d2, d3, d4] => { results := [.lit (.bool true)], args := [d1, d2, d3, d4] }
  | _ => none }
def victimsMinimalRow : OpenClaim := { program := "ytmeicgbddgeeoaagreatdoor", sum := "4e7a36ff4c9b99eb5cff79fe8f0ba51a8a3d68f556c77e0bc28dc86fd597c547", func := "hammock/hammocklaw18.VictimsMinimal", spec := "victimsMinimal", inPlace := ["internal/reflectlite.ValueOf", "(internal/reflectlite.Value).Type", "(internal/reflectlite.Value).IsNil", "internal/reflectlite.TypeOf", "(internal/reflectlite.Value).Elem", "(internal/reflectlite.Value).Set", "math/bits.Add64"], unfollowed := true, recurses := true, named := ["errors.errorType"], plainKeys := false, apart := false, laid := [("errors.errorType", laid_errors_errorType)] }
def VictimsMinimalSaid : Prop := victimsMinimalRow.holds Tryz.pinned (OpenSpec.ofChange victimsMinimalSpec)

/-- ITS FALSE NEIGHBOUR: 'it returns false'. Refute it at one input. -/
def victimsMinimalWrong : ChangeSpec := { name := "victimsMinimal", fn := fun _ => fun
  | [d1, d2, d3, d4] => { results := [.lit (.bool false)], args := [d1, d2, d3, d4] }
  | _ => none }
def VictimsMinimalWrongFalsely : Prop := victimsMinimalRow.holds Tryz.pinned (OpenSpec.ofChange victimsMinimalWrong)

/-- 'hammocklaw18.VictimsChecks': WHATEVER THE INPUT: true; the input reads as it did. -/
def victimsChecksSpec : ChangeSpec := { name := "victimsChecks", fn := fun _ => fun
  | [d1, d2, d3, d4, d5] => { results := [.lit (.bool true)], args := [d1, d2, d3, d4, d5] }
  | _ => none }
def victimsChecksRow : OpenClaim := { program := "ytmeicgbddgeeoaagreatdoor", sum := "4e7a36ff4c9b99eb5cff79fe8f0ba51a8a3d68f556c77e0bc28dc86fd597c547", func := "hammock/hammocklaw18.VictimsChecks", spec := "victimsChecks", inPlace := ["internal/reflectlite.ValueOf", "(internal/reflectlite.Value).Type", "(internal/reflectlite.Value).IsNil", "internal/reflectlite.TypeOf", "(internal/reflectlite.Value).Elem", "(internal/reflectlite.Value).Set", "math/bits.Add64"], unfollowed := true, recurses := true, named := ["errors.errorType"], plainKeys := false, apart := false, laid := [("errors.errorType", laid_errors_errorType)] }
def VictimsChecksSaid : Prop := victimsChecksRow.holds Tryz.pinned (OpenSpec.ofChange victimsChecksSpec)

/-- ITS FALSE NEIGHBOUR: 'it returns false'. Refute it at one input. -/
def victimsChecksWrong : ChangeSpec := { name := "victimsChecks", fn := fun _ => fun
  | [d1, d2, d3, d4, d5] => { results := [.lit (.bool false)], args := [d1, d2, d3, d4, d5] }
  | _ => none }
def VictimsChecksWrongFalsely : Prop := victimsChecksRow.holds Tryz.pinned (OpenSpec.ofChange victimsChecksWrong)

/-- 'hammocklaw18.VictimsSubsets': WHATEVER THE INPUT: true; the input reads as it did. -/
def victimsSubsetsSpec : ChangeSpec := { name := "victimsSubsets", fn := fun _ => fun
  | [d1, d2, d3, d4, d5] => { results := [.lit (.bool true)], args := [d1, d2, d3, d4, d5] }
  | _ => none }
def victimsSubsetsRow : OpenClaim := { program := "ytmeicgbddgeeoaagreatdoor", sum := "4e7a36ff4c9b99eb5cff79fe8f0ba51a8a3d68f556c77e0bc28dc86fd597c547", func := "hammock/hammocklaw18.VictimsSubsets", spec := "victimsSubsets", inPlace := ["internal/reflectlite.ValueOf", "(internal/reflectlite.Value).Type", "(internal/reflectlite.Value).IsNil", "internal/reflectlite.TypeOf", "(internal/reflectlite.Value).Elem", "(internal/reflectlite.Value).Set", "math/bits.Add64"], unfollowed := true, recurses := true, named := ["errors.errorType"], plainKeys := false, apart := false, laid := [("errors.errorType", laid_errors_errorType)] }
def VictimsSubsetsSaid : Prop := victimsSubsetsRow.holds Tryz.pinned (OpenSpec.ofChange victimsSubsetsSpec)

/-- ITS FALSE NEIGHBOUR: 'it returns false'. Refute it at one input. -/
def victimsSubsetsWrong : ChangeSpec := { name := "victimsSubsets", fn := fun _ => fun
  | [d1, d2, d3, d4, d5] => { results := [.lit (.bool false)], args := [d1, d2, d3, d4, d5] }
  | _ => none }
def VictimsSubsetsWrongFalsely : Prop := victimsSubsetsRow.holds Tryz.pinned (OpenSpec.ofChange victimsSubsetsWrong)

/-- 'hammocklaw18.VictimsReprieves': WHATEVER THE INPUT: true; the input reads as it did. -/
def victimsReprievesSpec : ChangeSpec := { name := "victimsReprieves", fn := fun _ => fun
  | [d1, d2, d3, d4] => { results := [.lit (.bool true)], args := [d1, d2, d3, d4] }
  | _ => none }
def victimsReprievesRow : OpenClaim := { program := "ytmeicgbddgeeoaagreatdoor", sum := "4e7a36ff4c9b99eb5cff79fe8f0ba51a8a3d68f556c77e0bc28dc86fd597c547", func := "hammock/hammocklaw18.VictimsReprieves", spec := "victimsReprieves", inPlace := ["internal/reflectlite.ValueOf", "(internal/reflectlite.Value).Type", "(internal/reflectlite.Value).IsNil", "internal/reflectlite.TypeOf", "(internal/reflectlite.Value).Elem", "(internal/reflectlite.Value).Set", "math/bits.Add64"], unfollowed := true, recurses := true, named := ["errors.errorType"], plainKeys := false, apart := false, laid := [("errors.errorType", laid_errors_errorType)] }
def VictimsReprievesSaid : Prop := victimsReprievesRow.holds Tryz.pinned (OpenSpec.ofChange victimsReprievesSpec)

/-- ITS FALSE NEIGHBOUR: 'it returns false'. Refute it at one input. -/
def victimsReprievesWrong : ChangeSpec := { name := "victimsReprieves", fn := fun _ => fun
  | [d1, d2, d3, d4] => { results := [.lit (.bool false)], args := [d1, d2, d3, d4] }
  | _ => none }
def VictimsReprievesWrongFalsely : Prop := victimsReprievesRow.holds Tryz.pinned (OpenSpec.ofChange victimsReprievesWrong)

/-- 'hammocklaw19.ChooseMatchesReference': WHATEVER THE INPUT: true; the input reads as it did. -/
def chooseMatchesReferenceSpec : ChangeSpec := { name := "chooseMatchesReference", fn := fun _ => fun
  | [d1, d2, d3] => { results := [.lit (.bool true)], args := [d1, d2, d3] }
  | _ => none }
def chooseMatchesReferenceRow : OpenClaim := { program := "ytmeicgbddgeeoaagreatdoor", sum := "4e7a36ff4c9b99eb5cff79fe8f0ba51a8a3d68f556c77e0bc28dc86fd597c547", func := "hammock/hammocklaw19.ChooseMatchesReference", spec := "chooseMatchesReference", inPlace := ["internal/reflectlite.ValueOf", "(internal/reflectlite.Value).Type", "(internal/reflectlite.Value).IsNil", "internal/reflectlite.TypeOf", "(internal/reflectlite.Value).Elem", "(internal/reflectlite.Value).Set", "math/bits.Add64"], unfollowed := true, recurses := true, named := ["errors.errorType"], plainKeys := false, apart := false, laid := [("errors.errorType", laid_errors_errorType)] }
def ChooseMatchesReferenceSaid : Prop := chooseMatchesReferenceRow.holds Tryz.pinned (OpenSpec.ofChange chooseMatchesReferenceSpec)

/-- ITS FALSE NEIGHBOUR: 'it returns false'. Refute it at one input. -/
def chooseMatchesReferenceWrong : ChangeSpec := { name := "chooseMatchesReference", fn := fun _ => fun
  | [d1, d2, d3] => { results := [.lit (.bool false)], args := [d1, d2, d3] }
  | _ => none }
def ChooseMatchesReferenceWrongFalsely : Prop := chooseMatchesReferenceRow.holds Tryz.pinned (OpenSpec.ofChange chooseMatchesReferenceWrong)

/-- 'hammocklaw19.ChooseMinimises': WHATEVER THE INPUT: true; the input reads as it did. -/
def chooseMinimisesSpec : ChangeSpec := { name := "chooseMinimises", fn := fun _ => fun
  | [d1, d2, d3] => { results := [.lit (.bool true)], args := [d1, d2, d3] }
  | _ => none }
def chooseMinimisesRow : OpenClaim := { program := "ytmeicgbddgeeoaagreatdoor", sum := "4e7a36ff4c9b99eb5cff79fe8f0ba51a8a3d68f556c77e0bc28dc86fd597c547", func := "hammock/hammocklaw19.ChooseMinimises", spec := "chooseMinimises", inPlace := ["internal/reflectlite.ValueOf", "(internal/reflectlite.Value).Type", "(internal/reflectlite.Value).IsNil", "internal/reflectlite.TypeOf", "(internal/reflectlite.Value).Elem", "(internal/reflectlite.Value).Set", "math/bits.Add64"], unfollowed := true, recurses := true, named := ["errors.errorType"], plainKeys := false, apart := false, laid := [("errors.errorType", laid_errors_errorType)] }
def ChooseMinimisesSaid : Prop := chooseMinimisesRow.holds Tryz.pinned (OpenSpec.ofChange chooseMinimisesSpec)

/-- ITS FALSE NEIGHBOUR: 'it returns false'. Refute it at one input. -/
def chooseMinimisesWrong : ChangeSpec := { name := "chooseMinimises", fn := fun _ => fun
  | [d1, d2, d3] => { results := [.lit (.bool false)], args := [d1, d2, d3] }
  | _ => none }
def ChooseMinimisesWrongFalsely : Prop := chooseMinimisesRow.holds Tryz.pinned (OpenSpec.ofChange chooseMinimisesWrong)

/-- 'hammocklaw19.ChooseFits': WHATEVER THE INPUT: true; the input reads as it did. -/
def chooseFitsSpec : ChangeSpec := { name := "chooseFits", fn := fun _ => fun
  | [d1, d2, d3] => { results := [.lit (.bool true)], args := [d1, d2, d3] }
  | _ => none }
def chooseFitsRow : OpenClaim := { program := "ytmeicgbddgeeoaagreatdoor", sum := "4e7a36ff4c9b99eb5cff79fe8f0ba51a8a3d68f556c77e0bc28dc86fd597c547", func := "hammock/hammocklaw19.ChooseFits", spec := "chooseFits", inPlace := ["internal/reflectlite.ValueOf", "(internal/reflectlite.Value).Type", "(internal/reflectlite.Value).IsNil", "internal/reflectlite.TypeOf", "(internal/reflectlite.Value).Elem", "(internal/reflectlite.Value).Set", "math/bits.Add64"], unfollowed := true, recurses := true, named := ["errors.errorType"], plainKeys := false, apart := false, laid := [("errors.errorType", laid_errors_errorType)] }
def ChooseFitsSaid : Prop := chooseFitsRow.holds Tryz.pinned (OpenSpec.ofChange chooseFitsSpec)

/-- ITS FALSE NEIGHBOUR: 'it returns false'. Refute it at one input. -/
def chooseFitsWrong : ChangeSpec := { name := "chooseFits", fn := fun _ => fun
  | [d1, d2, d3] => { results := [.lit (.bool false)], args := [d1, d2, d3] }
  | _ => none }
def ChooseFitsWrongFalsely : Prop := chooseFitsRow.holds Tryz.pinned (OpenSpec.ofChange chooseFitsWrong)

/- THE SECOND FORM. 'bulk': how many values and letters a reading holds, each counted each time it is reached (what is shared counts as often as it is met; a slice's spare places count too). A statement '..UptoSaid' is the law's where the arguments, and the package variables that the reading takes, are together of bulk at most 1048576: NARROWER than '..Said'. Prove '..Said' where nothing that the law and all that it calls make is longer than what came in: it says more and counts as full. Else prove '..UptoSaid'. A law counts once. -/
mutual
def uptoBulk {H : Type} : DataW H → Nat
  | .lit (.string bytes) => bytes.length + 1
  | .lit _ => 1
  | .nil => 1
  | .ptr d => uptoBulk d + 1
  | .slice elems spare => uptoBulkAll elems + uptoBulkAll spare + 1
  | .agg parts => uptoBulkAll parts + 1
  | .iface _ d => uptoBulk d + 1
  | .map entries => uptoBulkEntries entries + 1
  | .held _ => 1
def uptoBulkAll {H : Type} : List (DataW H) → Nat
  | [] => 0
  | d :: r => uptoBulk d + uptoBulkAll r
def uptoBulkEntries {H : Type} : List (Lit × DataW H) → Nat
  | [] => 0
  | x :: r => uptoBulkEntry x + uptoBulkEntries r
def uptoBulkEntry {H : Type} : Lit × DataW H → Nat
  | (.string bytes, d) => bytes.length + uptoBulk d + 1
  | (_, d) => uptoBulk d + 1
 end
def uptoSmall : (H : Type) → List (DataW H) → Bool := fun _ ds => decide (uptoBulkAll ds ≤ 1048576)
def OpenSpec.upto (s : _root_.Go.ChangeSpec) : _root_.Go.OpenSpec := { _root_.Go.OpenSpec.ofChange s with cond := some uptoSmall }

/-- 'hammocklaw18.VictimsMatchesReference', WHERE WHAT IT READS IS OF BULK AT MOST 1048576: true; the input reads as it did. -/
def victimsMatchesReferenceUptoRow : OpenClaim := { program := "ytmeicgbddgeeoaagreatdoor", sum := "4e7a36ff4c9b99eb5cff79fe8f0ba51a8a3d68f556c77e0bc28dc86fd597c547", func := "hammock/hammocklaw18.VictimsMatchesReference", spec := "victimsMatchesReference", inPlace := ["internal/reflectlite.ValueOf", "(internal/reflectlite.Value).Type", "(internal/reflectlite.Value).IsNil", "internal/reflectlite.TypeOf", "(internal/reflectlite.Value).Elem", "(internal/reflectlite.Value).Set", "math/bits.Add64"], unfollowed := true, recurses := true, named := ["errors.errorType"], plainKeys := false, apart := false, laid := [("errors.errorType", laid_errors_errorType)], narrowed := true }
def VictimsMatchesReferenceUptoSaid : Prop := victimsMatchesReferenceUptoRow.holds Tryz.pinned (OpenSpec.upto victimsMatchesReferenceSpec)

/-- 'hammocklaw18.VictimsMinimal', WHERE WHAT IT READS IS OF BULK AT MOST 1048576: true; the input reads as it did. -/
def victimsMinimalUptoRow : OpenClaim := { program := "ytmeicgbddgeeoaagreatdoor", sum := "4e7a36ff4c9b99eb5cff79fe8f0ba51a8a3d68f556c77e0bc28dc86fd597c547", func := "hammock/hammocklaw18.VictimsMinimal", spec := "victimsMinimal", inPlace := ["internal/reflectlite.ValueOf", "(internal/reflectlite.Value).Type", "(internal/reflectlite.Value).IsNil", "internal/reflectlite.TypeOf", "(internal/reflectlite.Value).Elem", "(internal/reflectlite.Value).Set", "math/bits.Add64"], unfollowed := true, recurses := true, named := ["errors.errorType"], plainKeys := false, apart := false, laid := [("errors.errorType", laid_errors_errorType)], narrowed := true }
def VictimsMinimalUptoSaid : Prop := victimsMinimalUptoRow.holds Tryz.pinned (OpenSpec.upto victimsMinimalSpec)

/-- 'hammocklaw18.VictimsChecks', WHERE WHAT IT READS IS OF BULK AT MOST 1048576: true; the input reads as it did. -/
def victimsChecksUptoRow : OpenClaim := { program := "ytmeicgbddgeeoaagreatdoor", sum := "4e7a36ff4c9b99eb5cff79fe8f0ba51a8a3d68f556c77e0bc28dc86fd597c547", func := "hammock/hammocklaw18.VictimsChecks", spec := "victimsChecks", inPlace := ["internal/reflectlite.ValueOf", "(internal/reflectlite.Value).Type", "(internal/reflectlite.Value).IsNil", "internal/reflectlite.TypeOf", "(internal/reflectlite.Value).Elem", "(internal/reflectlite.Value).Set", "math/bits.Add64"], unfollowed := true, recurses := true, named := ["errors.errorType"], plainKeys := false, apart := false, laid := [("errors.errorType", laid_errors_errorType)], narrowed := true }
def VictimsChecksUptoSaid : Prop := victimsChecksUptoRow.holds Tryz.pinned (OpenSpec.upto victimsChecksSpec)

/-- 'hammocklaw18.VictimsSubsets', WHERE WHAT IT READS IS OF BULK AT MOST 1048576: true; the input reads as it did. -/
def victimsSubsetsUptoRow : OpenClaim := { program := "ytmeicgbddgeeoaagreatdoor", sum := "4e7a36ff4c9b99eb5cff79fe8f0ba51a8a3d68f556c77e0bc28dc86fd597c547", func := "hammock/hammocklaw18.VictimsSubsets", spec := "victimsSubsets", inPlace := ["internal/reflectlite.ValueOf", "(internal/reflectlite.Value).Type", "(internal/reflectlite.Value).IsNil", "internal/reflectlite.TypeOf", "(internal/reflectlite.Value).Elem", "(internal/reflectlite.Value).Set", "math/bits.Add64"], unfollowed := true, recurses := true, named := ["errors.errorType"], plainKeys := false, apart := false, laid := [("errors.errorType", laid_errors_errorType)], narrowed := true }
def VictimsSubsetsUptoSaid : Prop := victimsSubsetsUptoRow.holds Tryz.pinned (OpenSpec.upto victimsSubsetsSpec)

/-- 'hammocklaw18.VictimsReprieves', WHERE WHAT IT READS IS OF BULK AT MOST 1048576: true; the input reads as it did. -/
def victimsReprievesUptoRow : OpenClaim := { program := "ytmeicgbddgeeoaagreatdoor", sum := "4e7a36ff4c9b99eb5cff79fe8f0ba51a8a3d68f556c77e0bc28dc86fd597c547", func := "hammock/hammocklaw18.VictimsReprieves", spec := "victimsReprieves", inPlace := ["internal/reflectlite.ValueOf", "(internal/reflectlite.Value).Type", "(internal/reflectlite.Value).IsNil", "internal/reflectlite.TypeOf", "(internal/reflectlite.Value).Elem", "(internal/reflectlite.Value).Set", "math/bits.Add64"], unfollowed := true, recurses := true, named := ["errors.errorType"], plainKeys := false, apart := false, laid := [("errors.errorType", laid_errors_errorType)], narrowed := true }
def VictimsReprievesUptoSaid : Prop := victimsReprievesUptoRow.holds Tryz.pinned (OpenSpec.upto victimsReprievesSpec)

/-- 'hammocklaw19.ChooseMatchesReference', WHERE WHAT IT READS IS OF BULK AT MOST 1048576: true; the input reads as it did. -/
def chooseMatchesReferenceUptoRow : OpenClaim := { program := "ytmeicgbddgeeoaagreatdoor", sum := "4e7a36ff4c9b99eb5cff79fe8f0ba51a8a3d68f556c77e0bc28dc86fd597c547", func := "hammock/hammocklaw19.ChooseMatchesReference", spec := "chooseMatchesReference", inPlace := ["internal/reflectlite.ValueOf", "(internal/reflectlite.Value).Type", "(internal/reflectlite.Value).IsNil", "internal/reflectlite.TypeOf", "(internal/reflectlite.Value).Elem", "(internal/reflectlite.Value).Set", "math/bits.Add64"], unfollowed := true, recurses := true, named := ["errors.errorType"], plainKeys := false, apart := false, laid := [("errors.errorType", laid_errors_errorType)], narrowed := true }
def ChooseMatchesReferenceUptoSaid : Prop := chooseMatchesReferenceUptoRow.holds Tryz.pinned (OpenSpec.upto chooseMatchesReferenceSpec)

/-- 'hammocklaw19.ChooseMinimises', WHERE WHAT IT READS IS OF BULK AT MOST 1048576: true; the input reads as it did. -/
def chooseMinimisesUptoRow : OpenClaim := { program := "ytmeicgbddgeeoaagreatdoor", sum := "4e7a36ff4c9b99eb5cff79fe8f0ba51a8a3d68f556c77e0bc28dc86fd597c547", func := "hammock/hammocklaw19.ChooseMinimises", spec := "chooseMinimises", inPlace := ["internal/reflectlite.ValueOf", "(internal/reflectlite.Value).Type", "(internal/reflectlite.Value).IsNil", "internal/reflectlite.TypeOf", "(internal/reflectlite.Value).Elem", "(internal/reflectlite.Value).Set", "math/bits.Add64"], unfollowed := true, recurses := true, named := ["errors.errorType"], plainKeys := false, apart := false, laid := [("errors.errorType", laid_errors_errorType)], narrowed := true }
def ChooseMinimisesUptoSaid : Prop := chooseMinimisesUptoRow.holds Tryz.pinned (OpenSpec.upto chooseMinimisesSpec)

/-- 'hammocklaw19.ChooseFits', WHERE WHAT IT READS IS OF BULK AT MOST 1048576: true; the input reads as it did. -/
def chooseFitsUptoRow : OpenClaim := { program := "ytmeicgbddgeeoaagreatdoor", sum := "4e7a36ff4c9b99eb5cff79fe8f0ba51a8a3d68f556c77e0bc28dc86fd597c547", func := "hammock/hammocklaw19.ChooseFits", spec := "chooseFits", inPlace := ["internal/reflectlite.ValueOf", "(internal/reflectlite.Value).Type", "(internal/reflectlite.Value).IsNil", "internal/reflectlite.TypeOf", "(internal/reflectlite.Value).Elem", "(internal/reflectlite.Value).Set", "math/bits.Add64"], unfollowed := true, recurses := true, named := ["errors.errorType"], plainKeys := false, apart := false, laid := [("errors.errorType", laid_errors_errorType)], narrowed := true }
def ChooseFitsUptoSaid : Prop := chooseFitsUptoRow.holds Tryz.pinned (OpenSpec.upto chooseFitsSpec)

end Rows
end Go.Proofs.YtmeicgbddgeeoaaGreatDoor
