/-
  Readings of rows of vectors.
-/
import Derived.Test.YtjljjakfebfpfaaDoorSC0
import Derived.Test.YtjljjakfebfpfaaDoorNP
set_option autoImplicit false
set_option linter.unusedVariables false
set_option linter.unusedSimpArgs false
namespace Go.Proofs.YtjljjakfebfpfaaDoor
open Go.Abs

theorem rdVecs : Rdg Tryd.prog 54 (fun l : List (List Int) => [.slice 1 (intss l)]) (fun l => (∀ x ∈ l, (∀ n ∈ x, IntKind.min .i64 ≤ n ∧ n ≤ IntKind.max .i64) ∧ x.length ≤ 9223372036854775807) ∧ l.length ≤ 9223372036854775807) :=
  Rdg.slice Tryd.underlying54 (by kernel_rfl) rdVec
theorem inRs_of {l : List (List Int)} (h : ∀ x ∈ l, (∀ n ∈ x, IntKind.min .i64 ≤ n ∧ n ≤ IntKind.max .i64) ∧ x.length ≤ 9223372036854775807) : InRs l := fun j => by
  rw [List.getD_eq_getElem?_getD]
  cases hj : l[j]? with
  | none => intro k; simp [I64]
  | some x => exact inR_of fun n hn => (h x (List.mem_of_getElem? hj)).1 n hn
end Go.Proofs.YtjljjakfebfpfaaDoor
