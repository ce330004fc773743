/-
  FilterParts, walked.
-/
import Derived.Test.YtcmhdpbmcgglmaaGreatDoorG1
import Derived.Test.YtcmhdpbmcgglmaaGreatDoorB3
section
set_option autoImplicit false
set_option linter.unusedVariables false
set_option linter.unusedSimpArgs false
namespace Go.Proofs.YtcmhdpbmcgglmaaGreatDoor
open Go.Abs
end Go.Proofs.YtcmhdpbmcgglmaaGreatDoor
end
