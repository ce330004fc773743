/-
  What the statements of this seat share: the readings of their arguments.
-/
import Derived.Test.YtmbkemofejpnfaaV8
import Derived.Test.YtmbkemofejpnfaaAbs15
import Derived.Test.YtmbkemofejpnfaaRows
set_option autoImplicit false
set_option linter.unusedVariables false
namespace Go.Proofs.Ytmbkemofejpnfaa
open Go.ChangeShapes Go.WideShapes Go.ChangeAt Go.RowKit Go.Abs

theorem own : ownKnob Try.prog.godebug = none := by kernel_rfl
theorem laidOut : laidOutB Try.prog = true := by kernel_rfl
theorem noGl : ∀ g, env.gl g = none := fun _ => rfl
theorem min64 : IntKind.min .i64 = -9223372036854775808 := rfl
theorem max64 : IntKind.max .i64 = 9223372036854775807 := rfl
theorem rdInts : Rdg Try.prog 24 (fun xs : List Int => [sl xs]) (fun xs => (∀ n ∈ xs, IntKind.min .i64 ≤ n ∧ n ≤ IntKind.max .i64) ∧ xs.length ≤ 9223372036854775807) :=
  Rdg.slice Try.underlying24 (by kernel_rfl) (Rdg.int Try.underlying2)
theorem rdIntss : Rdg Try.prog 22 (fun xs : List (List Int) => [sll xs]) (fun xs => (∀ x ∈ xs, (∀ n ∈ x, IntKind.min .i64 ≤ n ∧ n ≤ IntKind.max .i64) ∧ x.length ≤ 9223372036854775807) ∧ xs.length ≤ 9223372036854775807) :=
  Rdg.slice Try.underlying22 (by kernel_rfl) rdInts
theorem inR_of {xs : List Int} (h : ∀ n ∈ xs, IntKind.min .i64 ≤ n ∧ n ≤ IntKind.max .i64) : InR xs := small xs fun x hx => by
  have := h x hx
  rw [min64, max64] at this
  exact this
theorem rvl1 {W : World} {a : D} {v : Value} (h : RD W (Old W) a v) : RVL W (Old W) [] ([a].map .d) #[v] := ⟨rfl, fun j av hj => by
  match j with
  | 0 => simp at hj; subst hj; exact .d h
  | j + 1 => simp at hj⟩
theorem rvl2 {W : World} {a b : D} {v u : Value} (h : RD W (Old W) a v) (k : RD W (Old W) b u) : RVL W (Old W) [] ([a, b].map .d) #[v, u] := ⟨rfl, fun j av hj => by
  match j with
  | 0 => simp at hj; subst hj; exact .d h
  | 1 => simp at hj; subst hj; exact .d k
  | j + 2 => simp at hj⟩
theorem rvl3 {W : World} {a b c : D} {v u x : Value} (h : RD W (Old W) a v) (k : RD W (Old W) b u) (m : RD W (Old W) c x) : RVL W (Old W) [] ([a, b, c].map .d) #[v, u, x] := ⟨rfl, fun j av hj => by
  match j with
  | 0 => simp at hj; subst hj; exact .d h
  | 1 => simp at hj; subst hj; exact .d k
  | 2 => simp at hj; subst hj; exact .d m
  | j + 3 => simp at hj⟩

theorem rdInt : Rdg Try.prog 3 (fun n : Int => [.int .i64 n]) (fun n => IntKind.min .i64 ≤ n ∧ n ≤ IntKind.max .i64) := Rdg.int Try.underlying3
theorem rdU8 : Rdg Try.prog 5 (fun n : Int => [.int .u8 n]) (fun n => IntKind.min .u8 ≤ n ∧ n ≤ IntKind.max .u8) := Rdg.int Try.underlying5
end Go.Proofs.Ytmbkemofejpnfaa
