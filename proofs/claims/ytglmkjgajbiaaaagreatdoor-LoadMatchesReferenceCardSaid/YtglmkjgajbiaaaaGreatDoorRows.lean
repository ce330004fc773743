/-
  NARROWER THAN 'FOR EVERY INPUT', by the rows' own cells (each row's printed sentence says how): ReserveSees: laid · ReserveLower: laid · ReserveClears: laid · LoadMatchesReference: laid · LoadShort: laid · LoadFewer: laid · LoadRises: laid · LoadBinds: laid.
  DERIVED. THE GIVEN ROWS OF THIS SEAT. 8 by the template 'for every input the law returns true; each argument reads behind the call as it read before'; 0 by the template 'total and deterministic' (their statements: YtglmkjgajbiaaaaGreatDoorTotals.lean).
  GIVEN WITH THE SEED: the statements are not yours to turn. If you find one false, say at which input.
  Laid BY PROGRAM, IN A SANDBOX (cutbox-rows.mjs): the forced cells as the released guide's own fill.sh prints them over the translation fad90b2bd7f14e43… (all of the seat's roots in one cut). By AI agents, Wed Nov 11 2026. No macro, syntax, notation, axiom, sorry.
-/
import Derived.Test.YtglmkjgajbiaaaaGreatDoorChecked
import GoSem.Claim
import GoSem.ClaimJoined
import GoSem.ClaimMapViews
import Derived.JoinedTies
import Derived.KernelRfl
namespace Go.Proofs.YtglmkjgajbiaaaaGreatDoor
/- THE CELL 'sum', in the pinned program and in every row, IS THE sha256 OF THE DUMP (.gsa) THAT YtglmkjgajbiaaaaGreatDoorProg.lean LOADS. Nothing in Lean hashes anything: it is a label: what it is worth is what the hold of that sum in a sandbox is worth. -/
noncomputable def Tryz.pinned : Pinned := { name := "ytglmkjgajbiaaaagreatdoor", sum := "fad90b2bd7f14e43453323ac73ea05701db664a26a177ae5714e03894a641025", checked := Tryz.checked }
namespace Rows
def none {H : Type} : Left H := { results := [], args := [] }

/- WHAT THE LISTED PACKAGE-LEVEL VARIABLES READ AS WHEN THE CALL BEGINS. Each datum BY PROGRAM (the guide's laid-datum.mjs) off the statement by which the dump's own 'gosem.cut.vars' lays the variable. In a bare row this is a premise. The card (YtglmkjgajbiaaaaGreatDoorCards.lean) ties it to the program's text. -/
def laid_errors_errorType {H : Type} : DataW H := .iface "internal/reflectlite.rtype" (.agg [.ptr (.lit (.string [101, 114, 114, 111, 114]))])

/-- 'hammocklaw15.ReserveSees': WHATEVER THE INPUT: true; the input reads as it did. -/
def reserveSeesSpec : ChangeSpec := { name := "reserveSees", fn := fun _ => fun
  | [d1, d2, d3] => { results := [.lit (.bool true)], args := [d1, d2, d3] }
  | _ => none }
def reserveSeesRow : OpenClaim := { program := "ytglmkjgajbiaaaagreatdoor", sum := "fad90b2bd7f14e43453323ac73ea05701db664a26a177ae5714e03894a641025", func := "hammock/hammocklaw15.ReserveSees", spec := "reserveSees", inPlace := ["internal/reflectlite.ValueOf", "(internal/reflectlite.Value).Type", "(internal/reflectlite.Value).IsNil", "internal/reflectlite.TypeOf", "(internal/reflectlite.Value).Elem", "(internal/reflectlite.Value).Set", "math/bits.Add64"], unfollowed := true, recurses := true, named := ["errors.errorType"], plainKeys := false, apart := false, laid := [("errors.errorType", laid_errors_errorType)] }
def ReserveSeesSaid : Prop := reserveSeesRow.holds Tryz.pinned (OpenSpec.ofChange reserveSeesSpec)

/-- ITS FALSE NEIGHBOUR: 'it returns false'. Refute it at one input. -/
def reserveSeesWrong : ChangeSpec := { name := "reserveSees", fn := fun _ => fun
  | [d1, d2, d3] => { results := [.lit (.bool false)], args := [d1, d2, d3] }
  | _ => none }
def ReserveSeesWrongFalsely : Prop := reserveSeesRow.holds Tryz.pinned (OpenSpec.ofChange reserveSeesWrong)

/-- 'hammocklaw15.ReserveLower': WHATEVER THE INPUT: true; the input reads as it did. -/
def reserveLowerSpec : ChangeSpec := { name := "reserveLower", fn := fun _ => fun
  | [d1, d2, d3, d4, d5] => { results := [.lit (.bool true)], args := [d1, d2, d3, d4, d5] }
  | _ => none }
def reserveLowerRow : OpenClaim := { program := "ytglmkjgajbiaaaagreatdoor", sum := "fad90b2bd7f14e43453323ac73ea05701db664a26a177ae5714e03894a641025", func := "hammock/hammocklaw15.ReserveLower", spec := "reserveLower", inPlace := ["internal/reflectlite.ValueOf", "(internal/reflectlite.Value).Type", "(internal/reflectlite.Value).IsNil", "internal/reflectlite.TypeOf", "(internal/reflectlite.Value).Elem", "(internal/reflectlite.Value).Set", "math/bits.Add64"], unfollowed := true, recurses := true, named := ["errors.errorType"], plainKeys := false, apart := false, laid := [("errors.errorType", laid_errors_errorType)] }
def ReserveLowerSaid : Prop := reserveLowerRow.holds Tryz.pinned (OpenSpec.ofChange reserveLowerSpec)

/-- ITS FALSE NEIGHBOUR: 'it returns false'. Refute it at one input. -/
def reserveLowerWrong : ChangeSpec := { name := "reserveLower", fn := fun _ => fun
  | [d1, d2, d3, d4, d5] => { results := [.lit (.bool false)], args := [d1, d2, d3, d4, d5] }
  | _ => none }
def ReserveLowerWrongFalsely : Prop := reserveLowerRow.holds Tryz.pinned (OpenSpec.ofChange reserveLowerWrong)

/-- 'hammocklaw15.ReserveClears': WHATEVER THE INPUT: true; the input reads as it did. -/
def reserveClearsSpec : ChangeSpec := { name := "reserveClears", fn := fun _ => fun
  | [d1, d2, d3, d4, d5] => { results := [.lit (.bool true)], args := [d1, d2, d3, d4, d5] }
  | _ => none }
def reserveClearsRow : OpenClaim := { program := "ytglmkjgajbiaaaagreatdoor", sum := "fad90b2bd7f14e43453323ac73ea05701db664a26a177ae5714e03894a641025", func := "hammock/hammocklaw15.ReserveClears", spec := "reserveClears", inPlace := ["internal/reflectlite.ValueOf", "(internal/reflectlite.Value).Type", "(internal/reflectlite.Value).IsNil", "internal/reflectlite.TypeOf", "(internal/reflectlite.Value).Elem", "(internal/reflectlite.Value).Set", "math/bits.Add64"], unfollowed := true, recurses := true, named := ["errors.errorType"], plainKeys := false, apart := false, laid := [("errors.errorType", laid_errors_errorType)] }
def ReserveClearsSaid : Prop := reserveClearsRow.holds Tryz.pinned (OpenSpec.ofChange reserveClearsSpec)

/-- ITS FALSE NEIGHBOUR: 'it returns false'. Refute it at one input. -/
def reserveClearsWrong : ChangeSpec := { name := "reserveClears", fn := fun _ => fun
  | [d1, d2, d3, d4, d5] => { results := [.lit (.bool false)], args := [d1, d2, d3, d4, d5] }
  | _ => none }
def ReserveClearsWrongFalsely : Prop := reserveClearsRow.holds Tryz.pinned (OpenSpec.ofChange reserveClearsWrong)

/-- 'hammocklaw16.LoadMatchesReference': WHATEVER THE INPUT: true; the input reads as it did. -/
def loadMatchesReferenceSpec : ChangeSpec := { name := "loadMatchesReference", fn := fun _ => fun
  | [d1, d2, d3, d4, d5] => { results := [.lit (.bool true)], args := [d1, d2, d3, d4, d5] }
  | _ => none }
def loadMatchesReferenceRow : OpenClaim := { program := "ytglmkjgajbiaaaagreatdoor", sum := "fad90b2bd7f14e43453323ac73ea05701db664a26a177ae5714e03894a641025", func := "hammock/hammocklaw16.LoadMatchesReference", spec := "loadMatchesReference", inPlace := ["internal/reflectlite.ValueOf", "(internal/reflectlite.Value).Type", "(internal/reflectlite.Value).IsNil", "internal/reflectlite.TypeOf", "(internal/reflectlite.Value).Elem", "(internal/reflectlite.Value).Set", "math/bits.Add64"], unfollowed := true, recurses := true, named := ["errors.errorType"], plainKeys := false, apart := false, laid := [("errors.errorType", laid_errors_errorType)] }
def LoadMatchesReferenceSaid : Prop := loadMatchesReferenceRow.holds Tryz.pinned (OpenSpec.ofChange loadMatchesReferenceSpec)

/-- ITS FALSE NEIGHBOUR: 'it returns false'. Refute it at one input. -/
def loadMatchesReferenceWrong : ChangeSpec := { name := "loadMatchesReference", fn := fun _ => fun
  | [d1, d2, d3, d4, d5] => { results := [.lit (.bool false)], args := [d1, d2, d3, d4, d5] }
  | _ => none }
def LoadMatchesReferenceWrongFalsely : Prop := loadMatchesReferenceRow.holds Tryz.pinned (OpenSpec.ofChange loadMatchesReferenceWrong)

/-- 'hammocklaw16.LoadShort': WHATEVER THE INPUT: true; the input reads as it did. -/
def loadShortSpec : ChangeSpec := { name := "loadShort", fn := fun _ => fun
  | [d1, d2, d3, d4] => { results := [.lit (.bool true)], args := [d1, d2, d3, d4] }
  | _ => none }
def loadShortRow : OpenClaim := { program := "ytglmkjgajbiaaaagreatdoor", sum := "fad90b2bd7f14e43453323ac73ea05701db664a26a177ae5714e03894a641025", func := "hammock/hammocklaw16.LoadShort", spec := "loadShort", inPlace := ["internal/reflectlite.ValueOf", "(internal/reflectlite.Value).Type", "(internal/reflectlite.Value).IsNil", "internal/reflectlite.TypeOf", "(internal/reflectlite.Value).Elem", "(internal/reflectlite.Value).Set", "math/bits.Add64"], unfollowed := true, recurses := true, named := ["errors.errorType"], plainKeys := false, apart := false, laid := [("errors.errorType", laid_errors_errorType)] }
def LoadShortSaid : Prop := loadShortRow.holds Tryz.pinned (OpenSpec.ofChange loadShortSpec)

/-- ITS FALSE NEIGHBOUR: 'it returns false'. Refute it at one input. -/
def loadShortWrong : ChangeSpec := { name := "loadShort", fn := fun _ => fun
  | [d1, d2, d3, d4] => { results := [.lit (.bool false)], args := [d1, d2, d3, d4] }
  | _ => none }
def LoadShortWrongFalsely : Prop := loadShortRow.holds Tryz.pinned (OpenSpec.ofChange loadShortWrong)

/-- 'hammocklaw16.LoadFewer': WHATEVER THE INPUT: true; the input reads as it did. -/
def loadFewerSpec : ChangeSpec := { name := "loadFewer", fn := fun _ => fun
  | [d1, d2, d3, d4, d5, d6] => { results := [.lit (.bool true)], args := [d1, d2, d3, d4, d5, d6] }
  | _ => none }
def loadFewerRow : OpenClaim := { program := "ytglmkjgajbiaaaagreatdoor", sum := "fad90b2bd7f14e43453323ac73ea05701db664a26a177ae5714e03894a641025", func := "hammock/hammocklaw16.LoadFewer", spec := "loadFewer", inPlace := ["internal/reflectlite.ValueOf", "(internal/reflectlite.Value).Type", "(internal/reflectlite.Value).IsNil", "internal/reflectlite.TypeOf", "(internal/reflectlite.Value).Elem", "(internal/reflectlite.Value).Set", "math/bits.Add64"], unfollowed := true, recurses := true, named := ["errors.errorType"], plainKeys := false, apart := false, laid := [("errors.errorType", laid_errors_errorType)] }
def LoadFewerSaid : Prop := loadFewerRow.holds Tryz.pinned (OpenSpec.ofChange loadFewerSpec)

/-- ITS FALSE NEIGHBOUR: 'it returns false'. Refute it at one input. -/
def loadFewerWrong : ChangeSpec := { name := "loadFewer", fn := fun _ => fun
  | [d1, d2, d3, d4, d5, d6] => { results := [.lit (.bool false)], args := [d1, d2, d3, d4, d5, d6] }
  | _ => none }
def LoadFewerWrongFalsely : Prop := loadFewerRow.holds Tryz.pinned (OpenSpec.ofChange loadFewerWrong)

/-- 'hammocklaw16.LoadRises': WHATEVER THE INPUT: true; the input reads as it did. -/
def loadRisesSpec : ChangeSpec := { name := "loadRises", fn := fun _ => fun
  | [d1, d2, d3, d4, d5] => { results := [.lit (.bool true)], args := [d1, d2, d3, d4, d5] }
  | _ => none }
def loadRisesRow : OpenClaim := { program := "ytglmkjgajbiaaaagreatdoor", sum := "fad90b2bd7f14e43453323ac73ea05701db664a26a177ae5714e03894a641025", func := "hammock/hammocklaw16.LoadRises", spec := "loadRises", inPlace := ["internal/reflectlite.ValueOf", "(internal/reflectlite.Value).Type", "(internal/reflectlite.Value).IsNil", "internal/reflectlite.TypeOf", "(internal/reflectlite.Value).Elem", "(internal/reflectlite.Value).Set", "math/bits.Add64"], unfollowed := true, recurses := true, named := ["errors.errorType"], plainKeys := false, apart := false, laid := [("errors.errorType", laid_errors_errorType)] }
def LoadRisesSaid : Prop := loadRisesRow.holds Tryz.pinned (OpenSpec.ofChange loadRisesSpec)

/-- ITS FALSE NEIGHBOUR: 'it returns false'. Refute it at one input. -/
def loadRisesWrong : ChangeSpec := { name := "loadRises", fn := fun _ => fun
  | [d1, d2, d3, d4, d5] => { results := [.lit (.bool false)], args := [d1, d2, d3, d4, d5] }
  | _ => none }
def LoadRisesWrongFalsely : Prop := loadRisesRow.holds Tryz.pinned (OpenSpec.ofChange loadRisesWrong)

/-- 'hammocklaw16.LoadBinds': WHATEVER THE INPUT: true; the input reads as it did. -/
def loadBindsSpec : ChangeSpec := { name := "loadBinds", fn := fun _ => fun
  | [d1, d2, d3, d4, d5] => { results := [.lit (.bool true)], args := [d1, d2, d3, d4, d5] }
  | _ => none }
def loadBindsRow : OpenClaim := { program := "ytglmkjgajbiaaaagreatdoor", sum := "fad90b2bd7f14e43453323ac73ea05701db664a26a177ae5714e03894a641025", func := "hammock/hammocklaw16.LoadBinds", spec := "loadBinds", inPlace := ["internal/reflectlite.ValueOf", "(internal/reflectlite.Value).Type", "(internal/reflectlite.Value).IsNil", "internal/reflectlite.TypeOf", "(internal/reflectlite.Value).Elem", "(internal/reflectlite.Value).Set", "math/bits.Add64"], unfollowed := true, recurses := true, named := ["errors.errorType"], plainKeys := false, apart := false, laid := [("errors.errorType", laid_errors_errorType)] }
def LoadBindsSaid : Prop := loadBindsRow.holds Tryz.pinned (OpenSpec.ofChange loadBindsSpec)

/-- ITS FALSE NEIGHBOUR: 'it returns false'. Refute it at one input. -/
def loadBindsWrong : ChangeSpec := { name := "loadBinds", fn := fun _ => fun
  | [d1, d2, d3, d4, d5] => { results := [.lit (.bool false)], args := [d1, d2, d3, d4, d5] }
  | _ => none }
def LoadBindsWrongFalsely : Prop := loadBindsRow.holds Tryz.pinned (OpenSpec.ofChange loadBindsWrong)

/- THE SECOND FORM. 'bulk': how many values and letters a reading holds, each counted each time it is reached (what is shared counts as often as it is met; a slice's spare places count too). A statement '..UptoSaid' is the law's where the arguments, and the package variables that the reading takes, are together of bulk at most 1048576: NARROWER than '..Said'. Prove '..Said' where nothing that the law and all that it calls make is longer than what came in: it says more and counts as full. Else prove '..UptoSaid'. A law counts once. -/
mutual
def uptoBulk {H : Type} : DataW H → Nat
  | .lit (.string bytes) => bytes.length + 1
  | .lit _ => 1
  | .nil => 1
  | .ptr d => uptoBulk d + 1
  | .slice elems spare => uptoBulkAll elems + uptoBulkAll spare + 1
  | .agg parts => uptoBulkAll parts + 1
  | .iface _ d => uptoBulk d + 1
  | .map entries => uptoBulkEntries entries + 1
  | .held _ => 1
def uptoBulkAll {H : Type} : List (DataW H) → Nat
  | [] => 0
  | d :: r => uptoBulk d + uptoBulkAll r
def uptoBulkEntries {H : Type} : List (Lit × DataW H) → Nat
  | [] => 0
  | x :: r => uptoBulkEntry x + uptoBulkEntries r
def uptoBulkEntry {H : Type} : Lit × DataW H → Nat
  | (.string bytes, d) => bytes.length + uptoBulk d + 1
  | (_, d) => uptoBulk d + 1
 end
def uptoSmall : (H : Type) → List (DataW H) → Bool := fun _ ds => decide (uptoBulkAll ds ≤ 1048576)
def OpenSpec.upto (s : _root_.Go.ChangeSpec) : _root_.Go.OpenSpec := { _root_.Go.OpenSpec.ofChange s with cond := some uptoSmall }

/-- 'hammocklaw15.ReserveSees', WHERE WHAT IT READS IS OF BULK AT MOST 1048576: true; the input reads as it did. -/
def reserveSeesUptoRow : OpenClaim := { program := "ytglmkjgajbiaaaagreatdoor", sum := "fad90b2bd7f14e43453323ac73ea05701db664a26a177ae5714e03894a641025", func := "hammock/hammocklaw15.ReserveSees", spec := "reserveSees", inPlace := ["internal/reflectlite.ValueOf", "(internal/reflectlite.Value).Type", "(internal/reflectlite.Value).IsNil", "internal/reflectlite.TypeOf", "(internal/reflectlite.Value).Elem", "(internal/reflectlite.Value).Set", "math/bits.Add64"], unfollowed := true, recurses := true, named := ["errors.errorType"], plainKeys := false, apart := false, laid := [("errors.errorType", laid_errors_errorType)], narrowed := true }
def ReserveSeesUptoSaid : Prop := reserveSeesUptoRow.holds Tryz.pinned (OpenSpec.upto reserveSeesSpec)

/-- 'hammocklaw15.ReserveLower', WHERE WHAT IT READS IS OF BULK AT MOST 1048576: true; the input reads as it did. -/
def reserveLowerUptoRow : OpenClaim := { program := "ytglmkjgajbiaaaagreatdoor", sum := "fad90b2bd7f14e43453323ac73ea05701db664a26a177ae5714e03894a641025", func := "hammock/hammocklaw15.ReserveLower", spec := "reserveLower", inPlace := ["internal/reflectlite.ValueOf", "(internal/reflectlite.Value).Type", "(internal/reflectlite.Value).IsNil", "internal/reflectlite.TypeOf", "(internal/reflectlite.Value).Elem", "(internal/reflectlite.Value).Set", "math/bits.Add64"], unfollowed := true, recurses := true, named := ["errors.errorType"], plainKeys := false, apart := false, laid := [("errors.errorType", laid_errors_errorType)], narrowed := true }
def ReserveLowerUptoSaid : Prop := reserveLowerUptoRow.holds Tryz.pinned (OpenSpec.upto reserveLowerSpec)

/-- 'hammocklaw15.ReserveClears', WHERE WHAT IT READS IS OF BULK AT MOST 1048576: true; the input reads as it did. -/
def reserveClearsUptoRow : OpenClaim := { program := "ytglmkjgajbiaaaagreatdoor", sum := "fad90b2bd7f14e43453323ac73ea05701db664a26a177ae5714e03894a641025", func := "hammock/hammocklaw15.ReserveClears", spec := "reserveClears", inPlace := ["internal/reflectlite.ValueOf", "(internal/reflectlite.Value).Type", "(internal/reflectlite.Value).IsNil", "internal/reflectlite.TypeOf", "(internal/reflectlite.Value).Elem", "(internal/reflectlite.Value).Set", "math/bits.Add64"], unfollowed := true, recurses := true, named := ["errors.errorType"], plainKeys := false, apart := false, laid := [("errors.errorType", laid_errors_errorType)], narrowed := true }
def ReserveClearsUptoSaid : Prop := reserveClearsUptoRow.holds Tryz.pinned (OpenSpec.upto reserveClearsSpec)

/-- 'hammocklaw16.LoadMatchesReference', WHERE WHAT IT READS IS OF BULK AT MOST 1048576: true; the input reads as it did. -/
def loadMatchesReferenceUptoRow : OpenClaim := { program := "ytglmkjgajbiaaaagreatdoor", sum := "fad90b2bd7f14e43453323ac73ea05701db664a26a177ae5714e03894a641025", func := "hammock/hammocklaw16.LoadMatchesReference", spec := "loadMatchesReference", inPlace := ["internal/reflectlite.ValueOf", "(internal/reflectlite.Value).Type", "(internal/reflectlite.Value).IsNil", "internal/reflectlite.TypeOf", "(internal/reflectlite.Value).Elem", "(internal/reflectlite.Value).Set", "math/bits.Add64"], unfollowed := true, recurses := true, named := ["errors.errorType"], plainKeys := false, apart := false, laid := [("errors.errorType", laid_errors_errorType)], narrowed := true }
def LoadMatchesReferenceUptoSaid : Prop := loadMatchesReferenceUptoRow.holds Tryz.pinned (OpenSpec.upto loadMatchesReferenceSpec)

/-- 'hammocklaw16.LoadShort', WHERE WHAT IT READS IS OF BULK AT MOST 1048576: true; the input reads as it did. -/
def loadShortUptoRow : OpenClaim := { program := "ytglmkjgajbiaaaagreatdoor", sum := "fad90b2bd7f14e43453323ac73ea05701db664a26a177ae5714e03894a641025", func := "hammock/hammocklaw16.LoadShort", spec := "loadShort", inPlace := ["internal/reflectlite.ValueOf", "(internal/reflectlite.Value).Type", "(internal/reflectlite.Value).IsNil", "internal/reflectlite.TypeOf", "(internal/reflectlite.Value).Elem", "(internal/reflectlite.Value).Set", "math/bits.Add64"], unfollowed := true, recurses := true, named := ["errors.errorType"], plainKeys := false, apart := false, laid := [("errors.errorType", laid_errors_errorType)], narrowed := true }
def LoadShortUptoSaid : Prop := loadShortUptoRow.holds Tryz.pinned (OpenSpec.upto loadShortSpec)

/-- 'hammocklaw16.LoadFewer', WHERE WHAT IT READS IS OF BULK AT MOST 1048576: true; the input reads as it did. -/
def loadFewerUptoRow : OpenClaim := { program := "ytglmkjgajbiaaaagreatdoor", sum := "fad90b2bd7f14e43453323ac73ea05701db664a26a177ae5714e03894a641025", func := "hammock/hammocklaw16.LoadFewer", spec := "loadFewer", inPlace := ["internal/reflectlite.ValueOf", "(internal/reflectlite.Value).Type", "(internal/reflectlite.Value).IsNil", "internal/reflectlite.TypeOf", "(internal/reflectlite.Value).Elem", "(internal/reflectlite.Value).Set", "math/bits.Add64"], unfollowed := true, recurses := true, named := ["errors.errorType"], plainKeys := false, apart := false, laid := [("errors.errorType", laid_errors_errorType)], narrowed := true }
def LoadFewerUptoSaid : Prop := loadFewerUptoRow.holds Tryz.pinned (OpenSpec.upto loadFewerSpec)

/-- 'hammocklaw16.LoadRises', WHERE WHAT IT READS IS OF BULK AT MOST 1048576: true; the input reads as it did. -/
def loadRisesUptoRow : OpenClaim := { program := "ytglmkjgajbiaaaagreatdoor", sum := "fad90b2bd7f14e43453323ac73ea05701db664a26a177ae5714e03894a641025", func := "hammock/hammocklaw16.LoadRises", spec := "loadRises", inPlace := ["internal/reflectlite.ValueOf", "(internal/reflectlite.Value).Type", "(internal/reflectlite.Value).IsNil", "internal/reflectlite.TypeOf", "(internal/reflectlite.Value).Elem", "(internal/reflectlite.Value).Set", "math/bits.Add64"], unfollowed := true, recurses := true, named := ["errors.errorType"], plainKeys := false, apart := false, laid := [("errors.errorType", laid_errors_errorType)], narrowed := true }
def LoadRisesUptoSaid : Prop := loadRisesUptoRow.holds Tryz.pinned (OpenSpec.upto loadRisesSpec)

/-- 'hammocklaw16.LoadBinds', WHERE WHAT IT READS IS OF BULK AT MOST 1048576: true; the input reads as it did. -/
def loadBindsUptoRow : OpenClaim := { program := "ytglmkjgajbiaaaagreatdoor", sum := "fad90b2bd7f14e43453323ac73ea05701db664a26a177ae5714e03894a641025", func := "hammock/hammocklaw16.LoadBinds", spec := "loadBinds", inPlace := ["internal/reflectlite.ValueOf", "(internal/reflectlite.Value).Type", "(internal/reflectlite.Value).IsNil", "internal/reflectlite.TypeOf", "(internal/reflectlite.Value).Elem", "(internal/reflectlite.Value).Set", "math/bits.Add64"], unfollowed := true, recurses := true, named := ["errors.errorType"], plainKeys := false, apart := false, laid := [("errors.errorType", laid_errors_errorType)], narrowed := true }
def LoadBindsUptoSaid : Prop := loadBindsUptoRow.holds Tryz.pinned (OpenSpec.upto loadBindsSpec)

end Rows
end Go.Proofs.YtglmkjgajbiaaaaGreatDoor
