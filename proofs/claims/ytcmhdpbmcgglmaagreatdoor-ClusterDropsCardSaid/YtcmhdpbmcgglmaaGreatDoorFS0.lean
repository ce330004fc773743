/-
  What the statements of this seat share: the listed variable's cell, a world that meets the condition, the readings of their arguments.
-/
import Derived.Test.YtcmhdpbmcgglmaaGreatDoorC2
import Derived.Test.YtcmhdpbmcgglmaaGreatDoorA3
import Derived.Test.YtcmhdpbmcgglmaaGreatDoorRows
import Derived.ChangeSame
import Derived.ChangeVars
import Derived.JoinedOf
import Derived.RowKit
import Derived.RowKitTokens
import Derived.LaidLaws
import Derived.LaidHandle
import Derived.Stop.Joined
import Derived.Carry
section
set_option autoImplicit false
set_option linter.unusedVariables false
set_option linter.unusedSimpArgs false
namespace Go.Proofs.YtcmhdpbmcgglmaaGreatDoor
open Go.ChangeShapes Go.WideShapes Go.ChangeAt Go.RowKit Go.Abs
theorem own : ownKnob Tryz.prog.godebug = none := by kernel_rfl
theorem laidOut : laidOutB Tryz.prog = true := by kernel_rfl
theorem err_et : Tryz.prog.globalNamed "errors.errorType" = some 0 := by kernel_rfl
theorem err_rt : (Tryz.prog.cutTypes.find? (·.1 == "internal/reflectlite.rtype")).map (·.2) = some 216 := by kernel_rfl
theorem err_one : ((List.range 291).filter fun t => Tryz.prog.rowNamed t [101, 114, 114, 111, 114]) = [46] := by kernel_rfl
theorem err_size : Tryz.prog.types.size = 291 := by kernel_rfl
abbrev LaidAs (H : Type) : List (String × DataW H) := [("errors.errorType", Rows.laid_errors_errorType)]
theorem handle_of_laid {W : World} (h : laidMetH Tryz.prog (LaidAs Unit) W) : W.cell? ⟨0, 0, none⟩ = some (.iface 216 (.agg #[.pointer (some ⟨1, 46, none⟩)])) := by
  have h' : laidMet Tryz.prog [] W ∧ handlesMet Tryz.prog (LaidAs Unit) W := h
  obtain ⟨name, u, ty, e1, e2, e3, e4, e5⟩ := h'.2 _ (List.mem_singleton.2 rfl)
  have en : name = [101, 114, 114, 111, 114] := (Option.some.inj e1).symm
  subst en
  obtain rfl := Option.some.inj (err_rt.symm.trans e2)
  have hm : ty ∈ (List.range 291).filter fun t => Tryz.prog.rowNamed t [101, 114, 114, 111, 114] := List.mem_filter.2 ⟨List.mem_range.2 (by rw [← err_size]; exact e3), e4⟩
  rw [err_one] at hm
  obtain rfl := List.mem_singleton.1 hm
  have hh : typeHandle Tryz.prog 46 = .pointer (some ⟨1, 46, none⟩) := by kernel_rfl
  rw [hh] at e5
  simpa using World.var?_cell err_et e5 0
theorem glob_of {W : World} (h : laidMetH Tryz.prog (LaidAs Unit) W) : ∀ g sz xs, env.gl g = some (sz, xs) → RV W (Old W) [] (.pval sz xs 0 0) (.pointer (some ⟨g, 0, none⟩)) := fun g sz xs hx => by
  match g with
  | 0 =>
    obtain ⟨rfl, rfl⟩ : sz = 1 ∧ xs = [[D.iface 216 (.agg [.ptr ⟨1, 46, none⟩])]] := by
      have : (1, [[D.iface 216 (.agg [.ptr ⟨1, 46, none⟩])]]) = (sz, xs) := Option.some.inj hx
      cases this
      exact ⟨rfl, rfl⟩
    refine glob_one (handle_of_laid h) (.iface _ _ _ (.agg _ _ rfl (fun j hj => ?_) (fun j d hj => ?_))) rfl
    · match j with
      | 0 => rfl
      | j + 1 => simp at hj
    · match j with
      | 0 => simp at hj; subst hj; exact .ptr _
      | j + 1 => simp at hj
  | g + 1 => exact absurd hx (by simp [env, glL, Abs.look])
noncomputable def laidWorld (os : Os) : World :=
  let w0 := World.holding Tryz.prog os ⟨#[], #[], []⟩
  { w0 with heap := w0.heap.modify 0 fun
      | .cells _ t frozen => .cells #[.iface 216 (.agg #[.pointer (some ⟨1, 46, none⟩)])] t frozen
      | o => o }
theorem laidWorld_met (os : Os) (args : Array Value) : laidMetH Tryz.prog (LaidAs Unit) ((laidWorld os).forCall (fun _ _ => 0) ⟨#[], args, []⟩).memory :=
  laidMetH_of_parts (laidMet_nil _ _) (by kernel_rfl)
theorem rvl2 {W : World} {a b : D} {v u : Value} (h : RD W (Old W) a v) (k : RD W (Old W) b u) : RVL W (Old W) [] ([a, b].map .d) #[v, u] := ⟨rfl, fun j av hj => by
  match j with
  | 0 => simp at hj; subst hj; exact .d h
  | 1 => simp at hj; subst hj; exact .d k
  | j + 2 => simp at hj⟩
section
variable {H : Type} {enc : TypeId × Value → H} {P : Program} {w : World} {base : Nat} {spare : Nat → Bool} {held : Bool}
end
theorem rdInt : Rdg Tryz.prog 3 (fun n : Int => [.int .i64 n]) (fun n => IntKind.min .i64 ≤ n ∧ n ≤ IntKind.max .i64) := Rdg.int Tryz.underlying3
theorem rdI64 : Rdg Tryz.prog 2 (fun n : Int => [.int .i64 n]) (fun n => IntKind.min .i64 ≤ n ∧ n ≤ IntKind.max .i64) := Rdg.int Tryz.underlying2
theorem rdBool : Rdg Tryz.prog 4 (fun b : Bool => [.bool b]) (fun _ => True) := Rdg.bool Tryz.underlying4
theorem rdVec : Rdg Tryz.prog 33 (fun xs : List Int => [.slice 1 (ints xs)]) (fun xs => (∀ n ∈ xs, IntKind.min .i64 ≤ n ∧ n ≤ IntKind.max .i64) ∧ xs.length ≤ 9223372036854775807) :=
  Rdg.slice Tryz.underlying33 (by kernel_rfl) rdI64
theorem rdPod : Rdg Tryz.prog 35 pL (fun p : Pod => (∀ n ∈ p.2, IntKind.min .i64 ≤ n ∧ n ≤ IntKind.max .i64) ∧ p.2.length ≤ 9223372036854775807) :=
  Rdg.map (fun a : Int × (Int × (Bool × (Int × (List Int × (Int × (Int × (Int × (Int × Unit)))))))) => ((⟨a.1, a.2.1, a.2.2.1, a.2.2.2.1, a.2.2.2.2.2.1, a.2.2.2.2.2.2.1, a.2.2.2.2.2.2.2.1, a.2.2.2.2.2.2.2.2.1⟩, a.2.2.2.2.1) : Pod)) (Rdg.struct Tryz.underlying35 (N := 9) (by kernel_rfl)
    (RdgL.cons rfl (k := 1) (by kernel_rfl) (by omega) rdInt (RdgL.cons rfl (k := 1) (by kernel_rfl) (by omega) rdInt (RdgL.cons rfl (k := 1) (by kernel_rfl) (by omega) rdBool (RdgL.cons rfl (k := 1) (by kernel_rfl) (by omega) rdInt (RdgL.cons rfl (k := 1) (by kernel_rfl) (by omega) rdVec (RdgL.cons rfl (k := 1) (by kernel_rfl) (by omega) rdInt (RdgL.cons rfl (k := 1) (by kernel_rfl) (by omega) rdInt (RdgL.cons rfl (k := 1) (by kernel_rfl) (by omega) rdInt (RdgL.cons rfl (k := 1) (by kernel_rfl) (by omega) rdInt RdgL.nil)))))))))) (fun _ => rfl) (fun _ h => h.2.2.2.2.1)
theorem rdOpn : Rdg Tryz.prog 37 oL (fun _ => True) :=
  Rdg.map (fun a : Int × (Pod × (Int × (Int × (List Int × Unit)))) => ((a.1, a.2.1, a.2.2.1, a.2.2.2.1, a.2.2.2.2.1) : Opn)) (Rdg.struct Tryz.underlying37 (N := 13) (by kernel_rfl)
    (RdgL.cons rfl (k := 1) (by kernel_rfl) (by omega) rdInt (RdgL.cons rfl (k := 9) (by kernel_rfl) (by omega) rdPod (RdgL.cons rfl (k := 1) (by kernel_rfl) (by omega) rdInt (RdgL.cons rfl (k := 1) (by kernel_rfl) (by omega) rdInt (RdgL.cons rfl (k := 1) (by kernel_rfl) (by omega) rdVec RdgL.nil)))))) (fun _ => rfl) (fun _ _ => trivial)
theorem rdOpns : Rdg Tryz.prog 22 (fun xs : List Opn => [.slice 13 (opns xs)]) (fun xs => (∀ x ∈ xs, True) ∧ xs.length ≤ 9223372036854775807) :=
  Rdg.slice Tryz.underlying22 (by kernel_rfl) rdOpn
end Go.Proofs.YtcmhdpbmcgglmaaGreatDoor
end
