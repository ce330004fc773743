/-
  What tables are, by value: errors, entries, what adding, setting and removing make of them.
-/
import Derived.Test.YtjljjakfebfpfaaDoorAbsL
set_option autoImplicit false
set_option linter.unusedVariables false
set_option linter.unusedSimpArgs false
namespace Go.Proofs.YtjljjakfebfpfaaDoor
open Go.Abs

/-- An error, or none. -/
def errD : Option Int → D
  | none => .nili
  | some c => .iface 73 (.int .i64 c)
/-- A table of size sz that holds L. -/
def Tb {α : Type} (f : α → D) (sz : Int) (L : List (Int × α)) : List AObj := [.map (entE f L), .var [.d (.int .i64 sz), .mapo 0]]

end Go.Proofs.YtjljjakfebfpfaaDoor
