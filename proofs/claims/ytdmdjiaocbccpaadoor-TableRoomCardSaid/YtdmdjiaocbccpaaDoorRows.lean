/-
  NARROWER THAN 'FOR EVERY INPUT', by the rows' own cells (each row's printed sentence says how): TableStrings: laid · TableMatchesReference: laid · TableAgain: laid · TableRoom: laid · TableApart: laid.
  DERIVED. THE GIVEN ROWS OF THIS SEAT. 5 by the template 'for every input the law returns true; each argument reads behind the call as it read before'; 0 by the template 'total and deterministic' (their statements: YtdmdjiaocbccpaaDoorTotals.lean).
  GIVEN WITH THE SEED: the statements are not yours to turn. If you find one false, say at which input.
  Laid BY PROGRAM, IN A SANDBOX (cutbox-rows.mjs): the forced cells as the released guide's own fill.sh prints them over the translation ce18d7055b5771cf… (all of the seat's roots in one cut). By AI agents, Wed Nov 11 2026. No macro, syntax, notation, axiom, sorry.
-/
import Derived.Test.YtdmdjiaocbccpaaDoorChecked
import GoSem.Claim
import GoSem.ClaimJoined
import GoSem.ClaimMapViews
import Derived.JoinedTies
import Derived.KernelRfl
namespace Go.Proofs.YtdmdjiaocbccpaaDoor
/- THE CELL 'sum', in the pinned program and in every row, IS THE sha256 OF THE DUMP (.gsa) THAT YtdmdjiaocbccpaaDoorProg.lean LOADS. Nothing in Lean hashes anything: it is a label: what it is worth is what the hold of that sum in a sandbox is worth. -/
noncomputable def Tryd.pinned : Pinned := { name := "ytdmdjiaocbccpaadoor", sum := "ce18d7055b5771cff3e5e82e49ef2f903c4029c59f351ef2e948ba4bb8784a05", checked := Tryd.checked }
namespace Rows
def none {H : Type} : Left H := { results := [], args := [] }

/- WHAT THE LISTED PACKAGE-LEVEL VARIABLES READ AS WHEN THE CALL BEGINS. Each datum BY PROGRAM (the guide's laid-datum.mjs) off the statement by which the dump's own 'gosem.cut.vars' lays the variable. In a bare row this is a premise. The card (YtdmdjiaocbccpaaDoorCards.lean) ties it to the program's text. -/
def laid_errors_errorType {H : Type} : DataW H := .iface "internal/reflectlite.rtype" (.agg [.ptr (.lit (.string [101, 114, 114, 111, 114]))])

/-- 'hammocklaw10.TableStrings': WHATEVER THE INPUT: true; the input reads as it did. -/
def tableStringsSpec : ChangeSpec := { name := "tableStrings", fn := fun _ => fun
  | [d] => { results := [.lit (.bool true)], args := [d] }
  | _ => none }
def tableStringsRow : OpenClaim := { program := "ytdmdjiaocbccpaadoor", sum := "ce18d7055b5771cff3e5e82e49ef2f903c4029c59f351ef2e948ba4bb8784a05", func := "hammock/hammocklaw10.TableStrings", spec := "tableStrings", inPlace := ["internal/reflectlite.ValueOf", "(internal/reflectlite.Value).Type", "(internal/reflectlite.Value).IsNil", "internal/reflectlite.TypeOf", "(internal/reflectlite.Value).Elem", "(internal/reflectlite.Value).Set"], unfollowed := true, recurses := true, named := ["errors.errorType"], apart := false, laid := [("errors.errorType", laid_errors_errorType)] }
def TableStringsSaid : Prop := tableStringsRow.holds Tryd.pinned (OpenSpec.ofChange tableStringsSpec)

/-- ITS FALSE NEIGHBOUR: 'it returns false'. Refute it at one input. -/
def tableStringsWrong : ChangeSpec := { name := "tableStrings", fn := fun _ => fun
  | [d] => { results := [.lit (.bool false)], args := [d] }
  | _ => none }
def TableStringsWrongFalsely : Prop := tableStringsRow.holds Tryd.pinned (OpenSpec.ofChange tableStringsWrong)

/-- 'hammocklaw10.TableMatchesReference': WHATEVER THE INPUT: true; the input reads as it did. -/
def tableMatchesReferenceSpec : ChangeSpec := { name := "tableMatchesReference", fn := fun _ => fun
  | [d1, d2] => { results := [.lit (.bool true)], args := [d1, d2] }
  | _ => none }
def tableMatchesReferenceRow : OpenClaim := { program := "ytdmdjiaocbccpaadoor", sum := "ce18d7055b5771cff3e5e82e49ef2f903c4029c59f351ef2e948ba4bb8784a05", func := "hammock/hammocklaw10.TableMatchesReference", spec := "tableMatchesReference", inPlace := ["internal/reflectlite.ValueOf", "(internal/reflectlite.Value).Type", "(internal/reflectlite.Value).IsNil", "internal/reflectlite.TypeOf", "(internal/reflectlite.Value).Elem", "(internal/reflectlite.Value).Set"], unfollowed := true, recurses := true, named := ["errors.errorType"], apart := false, laid := [("errors.errorType", laid_errors_errorType)] }
def TableMatchesReferenceSaid : Prop := tableMatchesReferenceRow.holds Tryd.pinned (OpenSpec.ofChange tableMatchesReferenceSpec)

/-- ITS FALSE NEIGHBOUR: 'it returns false'. Refute it at one input. -/
def tableMatchesReferenceWrong : ChangeSpec := { name := "tableMatchesReference", fn := fun _ => fun
  | [d1, d2] => { results := [.lit (.bool false)], args := [d1, d2] }
  | _ => none }
def TableMatchesReferenceWrongFalsely : Prop := tableMatchesReferenceRow.holds Tryd.pinned (OpenSpec.ofChange tableMatchesReferenceWrong)

/-- 'hammocklaw10.TableAgain': WHATEVER THE INPUT: true; the input reads as it did. -/
def tableAgainSpec : ChangeSpec := { name := "tableAgain", fn := fun _ => fun
  | [d1, d2] => { results := [.lit (.bool true)], args := [d1, d2] }
  | _ => none }
def tableAgainRow : OpenClaim := { program := "ytdmdjiaocbccpaadoor", sum := "ce18d7055b5771cff3e5e82e49ef2f903c4029c59f351ef2e948ba4bb8784a05", func := "hammock/hammocklaw10.TableAgain", spec := "tableAgain", inPlace := ["internal/reflectlite.ValueOf", "(internal/reflectlite.Value).Type", "(internal/reflectlite.Value).IsNil", "internal/reflectlite.TypeOf", "(internal/reflectlite.Value).Elem", "(internal/reflectlite.Value).Set"], unfollowed := true, recurses := true, named := ["errors.errorType"], apart := false, laid := [("errors.errorType", laid_errors_errorType)] }
def TableAgainSaid : Prop := tableAgainRow.holds Tryd.pinned (OpenSpec.ofChange tableAgainSpec)

/-- ITS FALSE NEIGHBOUR: 'it returns false'. Refute it at one input. -/
def tableAgainWrong : ChangeSpec := { name := "tableAgain", fn := fun _ => fun
  | [d1, d2] => { results := [.lit (.bool false)], args := [d1, d2] }
  | _ => none }
def TableAgainWrongFalsely : Prop := tableAgainRow.holds Tryd.pinned (OpenSpec.ofChange tableAgainWrong)

/-- 'hammocklaw10.TableRoom': WHATEVER THE INPUT: true; the input reads as it did. -/
def tableRoomSpec : ChangeSpec := { name := "tableRoom", fn := fun _ => fun
  | [d1, d2] => { results := [.lit (.bool true)], args := [d1, d2] }
  | _ => none }
def tableRoomRow : OpenClaim := { program := "ytdmdjiaocbccpaadoor", sum := "ce18d7055b5771cff3e5e82e49ef2f903c4029c59f351ef2e948ba4bb8784a05", func := "hammock/hammocklaw10.TableRoom", spec := "tableRoom", inPlace := ["internal/reflectlite.ValueOf", "(internal/reflectlite.Value).Type", "(internal/reflectlite.Value).IsNil", "internal/reflectlite.TypeOf", "(internal/reflectlite.Value).Elem", "(internal/reflectlite.Value).Set"], unfollowed := true, recurses := true, named := ["errors.errorType"], apart := false, laid := [("errors.errorType", laid_errors_errorType)] }
def TableRoomSaid : Prop := tableRoomRow.holds Tryd.pinned (OpenSpec.ofChange tableRoomSpec)

/-- ITS FALSE NEIGHBOUR: 'it returns false'. Refute it at one input. -/
def tableRoomWrong : ChangeSpec := { name := "tableRoom", fn := fun _ => fun
  | [d1, d2] => { results := [.lit (.bool false)], args := [d1, d2] }
  | _ => none }
def TableRoomWrongFalsely : Prop := tableRoomRow.holds Tryd.pinned (OpenSpec.ofChange tableRoomWrong)

/-- 'hammocklaw10.TableApart': WHATEVER THE INPUT: true; the input reads as it did. -/
def tableApartSpec : ChangeSpec := { name := "tableApart", fn := fun _ => fun
  | [d] => { results := [.lit (.bool true)], args := [d] }
  | _ => none }
def tableApartRow : OpenClaim := { program := "ytdmdjiaocbccpaadoor", sum := "ce18d7055b5771cff3e5e82e49ef2f903c4029c59f351ef2e948ba4bb8784a05", func := "hammock/hammocklaw10.TableApart", spec := "tableApart", inPlace := ["internal/reflectlite.ValueOf", "(internal/reflectlite.Value).Type", "(internal/reflectlite.Value).IsNil", "internal/reflectlite.TypeOf", "(internal/reflectlite.Value).Elem", "(internal/reflectlite.Value).Set"], unfollowed := true, recurses := true, named := ["errors.errorType"], apart := false, laid := [("errors.errorType", laid_errors_errorType)] }
def TableApartSaid : Prop := tableApartRow.holds Tryd.pinned (OpenSpec.ofChange tableApartSpec)

/-- ITS FALSE NEIGHBOUR: 'it returns false'. Refute it at one input. -/
def tableApartWrong : ChangeSpec := { name := "tableApart", fn := fun _ => fun
  | [d] => { results := [.lit (.bool false)], args := [d] }
  | _ => none }
def TableApartWrongFalsely : Prop := tableApartRow.holds Tryd.pinned (OpenSpec.ofChange tableApartWrong)

/- THE SECOND FORM. 'bulk': how many values and letters a reading holds, each counted each time it is reached (what is shared counts as often as it is met; a slice's spare places count too). A statement '..UptoSaid' is the law's where the arguments, and the package variables that the reading takes, are together of bulk at most 1048576: NARROWER than '..Said'. Prove '..Said' where nothing that the law and all that it calls make is longer than what came in: it says more and counts as full. Else prove '..UptoSaid'. A law counts once. -/
mutual
def uptoBulk {H : Type} : DataW H → Nat
  | .lit (.string bytes) => bytes.length + 1
  | .lit _ => 1
  | .nil => 1
  | .ptr d => uptoBulk d + 1
  | .slice elems spare => uptoBulkAll elems + uptoBulkAll spare + 1
  | .agg parts => uptoBulkAll parts + 1
  | .iface _ d => uptoBulk d + 1
  | .map entries => uptoBulkEntries entries + 1
  | .held _ => 1
def uptoBulkAll {H : Type} : List (DataW H) → Nat
  | [] => 0
  | d :: r => uptoBulk d + uptoBulkAll r
def uptoBulkEntries {H : Type} : List (Lit × DataW H) → Nat
  | [] => 0
  | x :: r => uptoBulkEntry x + uptoBulkEntries r
def uptoBulkEntry {H : Type} : Lit × DataW H → Nat
  | (.string bytes, d) => bytes.length + uptoBulk d + 1
  | (_, d) => uptoBulk d + 1
 end
def uptoSmall : (H : Type) → List (DataW H) → Bool := fun _ ds => decide (uptoBulkAll ds ≤ 1048576)
def OpenSpec.upto (s : _root_.Go.ChangeSpec) : _root_.Go.OpenSpec := { _root_.Go.OpenSpec.ofChange s with cond := some uptoSmall }

/-- 'hammocklaw10.TableStrings', WHERE WHAT IT READS IS OF BULK AT MOST 1048576: true; the input reads as it did. -/
def tableStringsUptoRow : OpenClaim := { program := "ytdmdjiaocbccpaadoor", sum := "ce18d7055b5771cff3e5e82e49ef2f903c4029c59f351ef2e948ba4bb8784a05", func := "hammock/hammocklaw10.TableStrings", spec := "tableStrings", inPlace := ["internal/reflectlite.ValueOf", "(internal/reflectlite.Value).Type", "(internal/reflectlite.Value).IsNil", "internal/reflectlite.TypeOf", "(internal/reflectlite.Value).Elem", "(internal/reflectlite.Value).Set"], unfollowed := true, recurses := true, named := ["errors.errorType"], apart := false, laid := [("errors.errorType", laid_errors_errorType)], narrowed := true }
def TableStringsUptoSaid : Prop := tableStringsUptoRow.holds Tryd.pinned (OpenSpec.upto tableStringsSpec)

/-- 'hammocklaw10.TableMatchesReference', WHERE WHAT IT READS IS OF BULK AT MOST 1048576: true; the input reads as it did. -/
def tableMatchesReferenceUptoRow : OpenClaim := { program := "ytdmdjiaocbccpaadoor", sum := "ce18d7055b5771cff3e5e82e49ef2f903c4029c59f351ef2e948ba4bb8784a05", func := "hammock/hammocklaw10.TableMatchesReference", spec := "tableMatchesReference", inPlace := ["internal/reflectlite.ValueOf", "(internal/reflectlite.Value).Type", "(internal/reflectlite.Value).IsNil", "internal/reflectlite.TypeOf", "(internal/reflectlite.Value).Elem", "(internal/reflectlite.Value).Set"], unfollowed := true, recurses := true, named := ["errors.errorType"], apart := false, laid := [("errors.errorType", laid_errors_errorType)], narrowed := true }
def TableMatchesReferenceUptoSaid : Prop := tableMatchesReferenceUptoRow.holds Tryd.pinned (OpenSpec.upto tableMatchesReferenceSpec)

/-- 'hammocklaw10.TableAgain', WHERE WHAT IT READS IS OF BULK AT MOST 1048576: true; the input reads as it did. -/
def tableAgainUptoRow : OpenClaim := { program := "ytdmdjiaocbccpaadoor", sum := "ce18d7055b5771cff3e5e82e49ef2f903c4029c59f351ef2e948ba4bb8784a05", func := "hammock/hammocklaw10.TableAgain", spec := "tableAgain", inPlace := ["internal/reflectlite.ValueOf", "(internal/reflectlite.Value).Type", "(internal/reflectlite.Value).IsNil", "internal/reflectlite.TypeOf", "(internal/reflectlite.Value).Elem", "(internal/reflectlite.Value).Set"], unfollowed := true, recurses := true, named := ["errors.errorType"], apart := false, laid := [("errors.errorType", laid_errors_errorType)], narrowed := true }
def TableAgainUptoSaid : Prop := tableAgainUptoRow.holds Tryd.pinned (OpenSpec.upto tableAgainSpec)

/-- 'hammocklaw10.TableRoom', WHERE WHAT IT READS IS OF BULK AT MOST 1048576: true; the input reads as it did. -/
def tableRoomUptoRow : OpenClaim := { program := "ytdmdjiaocbccpaadoor", sum := "ce18d7055b5771cff3e5e82e49ef2f903c4029c59f351ef2e948ba4bb8784a05", func := "hammock/hammocklaw10.TableRoom", spec := "tableRoom", inPlace := ["internal/reflectlite.ValueOf", "(internal/reflectlite.Value).Type", "(internal/reflectlite.Value).IsNil", "internal/reflectlite.TypeOf", "(internal/reflectlite.Value).Elem", "(internal/reflectlite.Value).Set"], unfollowed := true, recurses := true, named := ["errors.errorType"], apart := false, laid := [("errors.errorType", laid_errors_errorType)], narrowed := true }
def TableRoomUptoSaid : Prop := tableRoomUptoRow.holds Tryd.pinned (OpenSpec.upto tableRoomSpec)

/-- 'hammocklaw10.TableApart', WHERE WHAT IT READS IS OF BULK AT MOST 1048576: true; the input reads as it did. -/
def tableApartUptoRow : OpenClaim := { program := "ytdmdjiaocbccpaadoor", sum := "ce18d7055b5771cff3e5e82e49ef2f903c4029c59f351ef2e948ba4bb8784a05", func := "hammock/hammocklaw10.TableApart", spec := "tableApart", inPlace := ["internal/reflectlite.ValueOf", "(internal/reflectlite.Value).Type", "(internal/reflectlite.Value).IsNil", "internal/reflectlite.TypeOf", "(internal/reflectlite.Value).Elem", "(internal/reflectlite.Value).Set"], unfollowed := true, recurses := true, named := ["errors.errorType"], apart := false, laid := [("errors.errorType", laid_errors_errorType)], narrowed := true }
def TableApartUptoSaid : Prop := tableApartUptoRow.holds Tryd.pinned (OpenSpec.upto tableApartSpec)

end Rows
end Go.Proofs.YtdmdjiaocbccpaaDoor
