/-
  What the statements of this seat share: the listed variable's cell, a world that meets the condition, the readings of their arguments.
-/
import Derived.Test.YtjljjakfebfpfaaDoorCP
import Derived.Test.YtjljjakfebfpfaaDoorAbsG
import Derived.Test.YtjljjakfebfpfaaDoorAbsT
import Derived.Test.YtjljjakfebfpfaaDoorRows
import Derived.ChangeSame
import Derived.ChangeVars
import Derived.JoinedOf
import Derived.RowKit
import Derived.RowKitTokens
import Derived.LaidLaws
import Derived.LaidHandle
import Derived.Stop.Joined
set_option autoImplicit false
set_option linter.unusedVariables false
set_option linter.unusedSimpArgs false
namespace Go.Proofs.YtjljjakfebfpfaaDoor
open Go.ChangeShapes Go.WideShapes Go.ChangeAt Go.RowKit Go.Abs

theorem own : ownKnob Tryd.prog.godebug = none := by kernel_rfl
theorem laidOut : laidOutB Tryd.prog = true := by kernel_rfl
theorem min64 : IntKind.min .i64 = -9223372036854775808 := rfl
theorem max64 : IntKind.max .i64 = 9223372036854775807 := rfl
theorem err_et : Tryd.prog.globalNamed "errors.errorType" = some 0 := by kernel_rfl
theorem err_rt : (Tryd.prog.cutTypes.find? (·.1 == "internal/reflectlite.rtype")).map (·.2) = some 138 := by kernel_rfl
theorem err_one : ((List.range 209).filter fun t => Tryd.prog.rowNamed t [101, 114, 114, 111, 114]) = [32] := by kernel_rfl
theorem err_size : Tryd.prog.types.size = 209 := by kernel_rfl
/-- The row's list of variables. -/
abbrev LaidAs (H : Type) : List (String × DataW H) := [("errors.errorType", Rows.laid_errors_errorType)]
/-- What the condition gives a walk: the variable's one cell. -/
theorem handle_of_laid {W : World} (h : laidMetH Tryd.prog (LaidAs Unit) W) : W.cell? ⟨0, 0, none⟩ = some (.iface 138 (.agg #[.pointer (some ⟨1, 32, none⟩)])) := by
  have h' : laidMet Tryd.prog [] W ∧ handlesMet Tryd.prog (LaidAs Unit) W := h
  obtain ⟨name, u, ty, e1, e2, e3, e4, e5⟩ := h'.2 _ (List.mem_singleton.2 rfl)
  have en : name = [101, 114, 114, 111, 114] := (Option.some.inj e1).symm
  subst en
  obtain rfl := Option.some.inj (err_rt.symm.trans e2)
  have hm : ty ∈ (List.range 209).filter fun t => Tryd.prog.rowNamed t [101, 114, 114, 111, 114] := List.mem_filter.2 ⟨List.mem_range.2 (by rw [← err_size]; exact e3), e4⟩
  rw [err_one] at hm
  obtain rfl := List.mem_singleton.1 hm
  have hh : typeHandle Tryd.prog 32 = .pointer (some ⟨1, 32, none⟩) := by kernel_rfl
  rw [hh] at e5
  simpa using World.var?_cell err_et e5 0
theorem glob_of {W : World} (h : laidMetH Tryd.prog (LaidAs Unit) W) : ∀ g sz xs, env.gl g = some (sz, xs) → RV W (Old W) [] (.pval sz xs 0 0) (.pointer (some ⟨g, 0, none⟩)) := fun g sz xs hx => by
  match g with
  | 0 =>
    obtain ⟨rfl, rfl⟩ : sz = 1 ∧ xs = [[D.iface 138 (.agg [.ptr ⟨1, 32, none⟩])]] := by
      have : (1, [[D.iface 138 (.agg [.ptr ⟨1, 32, none⟩])]]) = (sz, xs) := Option.some.inj hx
      cases this
      exact ⟨rfl, rfl⟩
    refine glob_one (handle_of_laid h) (.iface _ _ _ (.agg _ _ rfl (fun j hj => ?_) (fun j d hj => ?_))) rfl
    · match j with
      | 0 => rfl
      | j + 1 => simp at hj
    · match j with
      | 0 => simp at hj; subst hj; exact .ptr _
      | j + 1 => simp at hj
  | g + 1 => exact absurd hx (by simp [env, glL, Abs.look])
/-- A world that meets the condition. -/
noncomputable def laidWorld (os : Os) : World :=
  let w0 := World.holding Tryd.prog os ⟨#[], #[], []⟩
  { w0 with heap := w0.heap.modify 0 fun
      | .cells _ t frozen => .cells #[.iface 138 (.agg #[.pointer (some ⟨1, 32, none⟩)])] t frozen
      | o => o }
theorem laidWorld_met (os : Os) (args : Array Value) : laidMetH Tryd.prog (LaidAs Unit) ((laidWorld os).forCall (fun _ _ => 0) ⟨#[], args, []⟩).memory :=
  laidMetH_of_parts (laidMet_nil _ _) (by kernel_rfl)
theorem rvl1 {W : World} {a : D} {v : Value} (h : RD W (Old W) a v) : RVL W (Old W) [] ([a].map .d) #[v] := ⟨rfl, fun j av hj => by
  match j with
  | 0 => simp at hj; subst hj; exact .d h
  | j + 1 => simp at hj⟩
theorem rvl2 {W : World} {a b : D} {v u : Value} (h : RD W (Old W) a v) (k : RD W (Old W) b u) : RVL W (Old W) [] ([a, b].map .d) #[v, u] := ⟨rfl, fun j av hj => by
  match j with
  | 0 => simp at hj; subst hj; exact .d h
  | 1 => simp at hj; subst hj; exact .d k
  | j + 2 => simp at hj⟩
theorem rvl3 {W : World} {a b c : D} {v u x : Value} (h : RD W (Old W) a v) (k : RD W (Old W) b u) (m : RD W (Old W) c x) : RVL W (Old W) [] ([a, b, c].map .d) #[v, u, x] := ⟨rfl, fun j av hj => by
  match j with
  | 0 => simp at hj; subst hj; exact .d h
  | 1 => simp at hj; subst hj; exact .d k
  | 2 => simp at hj; subst hj; exact .d m
  | j + 3 => simp at hj⟩
theorem rdInt : Rdg Tryd.prog 3 (fun n : Int => [.int .i64 n]) (fun n => IntKind.min .i64 ≤ n ∧ n ≤ IntKind.max .i64) := Rdg.int Tryd.underlying3
theorem rdI64 : Rdg Tryd.prog 2 (fun n : Int => [.int .i64 n]) (fun n => IntKind.min .i64 ≤ n ∧ n ≤ IntKind.max .i64) := Rdg.int Tryd.underlying2
theorem rdBool : Rdg Tryd.prog 4 (fun b : Bool => [.bool b]) (fun _ => True) := Rdg.bool Tryd.underlying4
theorem rdVec : Rdg Tryd.prog 43 (fun xs : List Int => [.slice 1 (ints xs)]) (fun xs => (∀ n ∈ xs, IntKind.min .i64 ≤ n ∧ n ≤ IntKind.max .i64) ∧ xs.length ≤ 9223372036854775807) :=
  Rdg.slice Tryd.underlying43 (by kernel_rfl) rdI64
theorem rdCls : Rdg Tryd.prog 30 cD (fun _ => True) :=
  Rdg.map (fun a : Int × (Int × (Bool × Unit)) => ((a.1, a.2.1, a.2.2.1) : Cls)) (Rdg.struct Tryd.underlying30 (N := 3) (by kernel_rfl)
    (RdgL.cons rfl (k := 1) (by kernel_rfl) (by omega) rdInt (RdgL.cons rfl (k := 1) (by kernel_rfl) (by omega) rdInt (RdgL.cons rfl (k := 1) (by kernel_rfl) (by omega) rdBool RdgL.nil)))) (fun _ => rfl) (fun _ _ => trivial)
theorem rdClss : Rdg Tryd.prog 22 (fun xs : List Cls => [.slice 3 (cls xs)]) (fun xs => (∀ x ∈ xs, True) ∧ xs.length ≤ 9223372036854775807) :=
  Rdg.slice Tryd.underlying22 (by kernel_rfl) rdCls
theorem rdOp : Rdg Tryd.prog 45 oC (fun o => (∀ n ∈ o.am, IntKind.min .i64 ≤ n ∧ n ≤ IntKind.max .i64) ∧ o.am.length ≤ 9223372036854775807) :=
  Rdg.map (fun a : Int × (Int × (Int × (Int × (Bool × (List Int × Unit))))) => (⟨a.1, a.2.1, a.2.2.1, a.2.2.2.1, a.2.2.2.2.1, a.2.2.2.2.2.1⟩ : Opn)) (Rdg.struct Tryd.underlying45 (N := 6) (by kernel_rfl)
    (RdgL.cons rfl (k := 1) (by kernel_rfl) (by omega) rdInt (RdgL.cons rfl (k := 1) (by kernel_rfl) (by omega) rdInt (RdgL.cons rfl (k := 1) (by kernel_rfl) (by omega) rdInt (RdgL.cons rfl (k := 1) (by kernel_rfl) (by omega) rdInt (RdgL.cons rfl (k := 1) (by kernel_rfl) (by omega) rdBool (RdgL.cons rfl (k := 1) (by kernel_rfl) (by omega) rdVec RdgL.nil)))))))
    (fun _ => rfl) (fun _ h => h.2.2.2.2.2.1)

end Go.Proofs.YtjljjakfebfpfaaDoor
