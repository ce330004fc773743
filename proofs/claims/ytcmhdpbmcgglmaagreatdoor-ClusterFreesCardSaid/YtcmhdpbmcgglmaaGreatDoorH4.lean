/-
  FilterBinds, walked.
-/
import Derived.Test.YtcmhdpbmcgglmaaGreatDoorH1
section
set_option autoImplicit false
set_option linter.unusedVariables false
set_option linter.unusedSimpArgs false
namespace Go.Proofs.YtcmhdpbmcgglmaaGreatDoor
open Go.Abs
section
variable {c : Cl} {w : Rc}
end
end Go.Proofs.YtcmhdpbmcgglmaaGreatDoor
end
