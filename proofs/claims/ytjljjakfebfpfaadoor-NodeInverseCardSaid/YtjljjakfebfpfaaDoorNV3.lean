/-
  Nodes, by value.
-/
import Derived.Test.YtjljjakfebfpfaaDoorCT0
import Derived.Test.YtjljjakfebfpfaaDoorCEnv
set_option autoImplicit false
set_option linter.unusedVariables false
set_option linter.unusedSimpArgs false
namespace Go.Proofs.YtjljjakfebfpfaaDoor
open Go.Abs

/-- A node with its usage: id, capacity, what is used. -/
abbrev Ent := Int × List Int × List Int
def fE (e : Ent) : D := .agg [.int .i64 e.1, .slice 1 (ints e.2.1), .slice 1 (ints e.2.2)]
def e0 : Ent := (0, [], [])
def zE : D := .agg [.int .i64 0, .nils, .nils]
end Go.Proofs.YtjljjakfebfpfaaDoor
