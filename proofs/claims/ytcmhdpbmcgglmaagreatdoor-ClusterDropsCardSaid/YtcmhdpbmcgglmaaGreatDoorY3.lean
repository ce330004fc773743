/-
  ClusterCapacity, walked.
-/
import Derived.Test.YtcmhdpbmcgglmaaGreatDoorC2
section
set_option autoImplicit false
set_option linter.unusedVariables false
set_option linter.unusedSimpArgs false
namespace Go.Proofs.YtcmhdpbmcgglmaaGreatDoor
open Go.Abs
def wV (w : Rc) : AObj := .var [.d (.int .i64 w.d), .d (.slice 2 (nds w.nodes)), .d (.slice 9 (pods w.pods))]
end Go.Proofs.YtcmhdpbmcgglmaaGreatDoor
end
