/-
  What the statements of this seat share: the listed variable's cell, a world that meets the condition, the readings of their arguments.
-/
import Derived.Test.YtmeicgbddgeeoaaGreatDoorB3
import Derived.Test.YtmeicgbddgeeoaaGreatDoorA3
import Derived.Test.YtmeicgbddgeeoaaGreatDoorRows
import Derived.ChangeSame
import Derived.ChangeVars
import Derived.JoinedOf
import Derived.RowKit
import Derived.RowKitTokens
import Derived.LaidLaws
import Derived.LaidHandle
import Derived.Stop.Joined
import Derived.Carry
section
set_option autoImplicit false
set_option linter.unusedVariables false
set_option linter.unusedSimpArgs false
namespace Go.Proofs.YtmeicgbddgeeoaaGreatDoor
open Go.ChangeShapes Go.WideShapes Go.ChangeAt Go.RowKit Go.Abs
theorem own : ownKnob Tryz.prog.godebug = none := by kernel_rfl
theorem laidOut : laidOutB Tryz.prog = true := by kernel_rfl
theorem err_et : Tryz.prog.globalNamed "errors.errorType" = some 0 := by kernel_rfl
theorem err_rt : (Tryz.prog.cutTypes.find? (·.1 == "internal/reflectlite.rtype")).map (·.2) = some 235 := by kernel_rfl
theorem err_one : ((List.range 298).filter fun t => Tryz.prog.rowNamed t [101, 114, 114, 111, 114]) = [74] := by kernel_rfl
theorem err_size : Tryz.prog.types.size = 298 := by kernel_rfl
abbrev LaidAs (H : Type) : List (String × DataW H) := [("errors.errorType", Rows.laid_errors_errorType)]
theorem handle_of_laid {W : World} (h : laidMetH Tryz.prog (LaidAs Unit) W) : W.cell? ⟨0, 0, none⟩ = some (.iface 235 (.agg #[.pointer (some ⟨1, 74, none⟩)])) := by
 have h' : laidMet Tryz.prog [] W ∧ handlesMet Tryz.prog (LaidAs Unit) W := h
 obtain ⟨name, u, ty, e1, e2, e3, e4, e5⟩ := h'.2 _ (List.mem_singleton.2 rfl)
 have en : name = [101, 114, 114, 111, 114] := (Option.some.inj e1).symm
 subst en
 obtain rfl := Option.some.inj (err_rt.symm.trans e2)
 have hm : ty ∈ (List.range 298).filter fun t => Tryz.prog.rowNamed t [101, 114, 114, 111, 114] := List.mem_filter.2 ⟨List.mem_range.2 (by rw [← err_size]; exact e3), e4⟩
 rw [err_one] at hm
 obtain rfl := List.mem_singleton.1 hm
 have hh : typeHandle Tryz.prog 74 = .pointer (some ⟨1, 74, none⟩) := by kernel_rfl
 rw [hh] at e5
 simpa using World.var?_cell err_et e5 0
theorem glob_of {W : World} (h : laidMetH Tryz.prog (LaidAs Unit) W) : ∀ g sz xs, env.gl g = some (sz, xs) → RV W (Old W) [] (.pval sz xs 0 0) (.pointer (some ⟨g, 0, none⟩)) := fun g sz xs hx => by
 match g with
 | 0 =>
  obtain ⟨rfl, rfl⟩ : sz = 1 ∧ xs = [[D.iface 235 (.agg [.ptr ⟨1, 74, none⟩])]] := by
   have : (1, [[D.iface 235 (.agg [.ptr ⟨1, 74, none⟩])]]) = (sz, xs) := Option.some.inj hx
   cases this
   exact ⟨rfl, rfl⟩
  refine glob_one (handle_of_laid h) (.iface _ _ _ (.agg _ _ rfl (fun j hj => ?_) (fun j d hj => ?_))) rfl
  ·match j with
   | 0 => rfl
   | j + 1 => simp at hj
  ·match j with
   | 0 => simp at hj; subst hj; exact .ptr _
   | j + 1 => simp at hj
 | g + 1 => exact absurd hx (by simp [env, glL, Abs.look])
noncomputable def laidWorld (os : Os) : World :=
 let w0 := World.holding Tryz.prog os ⟨#[], #[], []⟩
 { w0 with heap := w0.heap.modify 0 fun
   | .cells _ t frozen => .cells #[.iface 235 (.agg #[.pointer (some ⟨1, 74, none⟩)])] t frozen
   | o => o }
theorem laidWorld_met (os : Os) (args : Array Value) : laidMetH Tryz.prog (LaidAs Unit) ((laidWorld os).forCall (fun _ _ => 0) ⟨#[], args, []⟩).memory :=
 laidMetH_of_parts (laidMet_nil _ _) (by kernel_rfl)
section
variable {H : Type} {enc : TypeId × Value → H} {P : Program} {w : World} {base : Nat} {spare : Nat → Bool} {held : Bool}
theorem rvl4 {W : World} {a0 a1 a2 a3 : D} {v0 v1 v2 v3 : Value} (h0 : RD W (Old W) a0 v0) (h1 : RD W (Old W) a1 v1) (h2 : RD W (Old W) a2 v2) (h3 : RD W (Old W) a3 v3) : RVL W (Old W) [] ([a0, a1, a2, a3].map .d) #[v0, v1, v2, v3] := ⟨rfl, fun j av hj => by
 match j with
 | 0 => simp at hj; subst hj; exact .d h0
 | 1 => simp at hj; subst hj; exact .d h1
 | 2 => simp at hj; subst hj; exact .d h2
 | 3 => simp at hj; subst hj; exact .d h3
 | j + 4 => simp at hj⟩
theorem trodAll_five {t0 t1 t2 t3 t4 : TypeId} {args : Array Value} {ds : List (DataW H)} {ps : List MemPlace} (h : DataW.TrodAll enc P w base spare held [t0, t1, t2, t3, t4] args.toList ds ps) :
  ∃ v0 v1 v2 v3 v4 d0 d1 d2 d3 d4 p0 p1 p2 p3 p4, args = #[v0, v1, v2, v3, v4] ∧ ds = [d0, d1, d2, d3, d4] ∧ ps = p0 ++ p1 ++ p2 ++ p3 ++ p4 ∧ DataW.Trod enc P w base spare held t0 v0 d0 p0 ∧ DataW.Trod enc P w base spare held t1 v1 d1 p1 ∧ DataW.Trod enc P w base spare held t2 v2 d2 p2 ∧ DataW.Trod enc P w base spare held t3 v3 d3 p3 ∧ DataW.Trod enc P w base spare held t4 v4 d4 p4 := by
 obtain ⟨v0, vs0, d0, ds0, p0, q0, hargs, rfl, rfl, hd0, h0⟩ := trodAll_cons h
 obtain ⟨v1, vs1, d1, ds1, p1, q1, rfl, rfl, rfl, hd1, h1⟩ := trodAll_cons h0
 obtain ⟨v2, vs2, d2, ds2, p2, q2, rfl, rfl, rfl, hd2, h2⟩ := trodAll_cons h1
 obtain ⟨v3, vs3, d3, ds3, p3, q3, rfl, rfl, rfl, hd3, h3⟩ := trodAll_cons h2
 obtain ⟨v4, vs4, d4, ds4, p4, q4, rfl, rfl, rfl, hd4, h4⟩ := trodAll_cons h3
 obtain ⟨rfl, rfl, rfl⟩ := trodAll_nil h4
 exact ⟨v0, v1, v2, v3, v4, d0, d1, d2, d3, d4, p0, p1, p2, p3, p4, by cases args; simp_all, rfl, by simp, hd0, hd1, hd2, hd3, hd4⟩
theorem rvl5 {W : World} {a0 a1 a2 a3 a4 : D} {v0 v1 v2 v3 v4 : Value} (h0 : RD W (Old W) a0 v0) (h1 : RD W (Old W) a1 v1) (h2 : RD W (Old W) a2 v2) (h3 : RD W (Old W) a3 v3) (h4 : RD W (Old W) a4 v4) : RVL W (Old W) [] ([a0, a1, a2, a3, a4].map .d) #[v0, v1, v2, v3, v4] := ⟨rfl, fun j av hj => by
 match j with
 | 0 => simp at hj; subst hj; exact .d h0
 | 1 => simp at hj; subst hj; exact .d h1
 | 2 => simp at hj; subst hj; exact .d h2
 | 3 => simp at hj; subst hj; exact .d h3
 | 4 => simp at hj; subst hj; exact .d h4
 | j + 5 => simp at hj⟩
end
theorem rdInt : Rdg Tryz.prog 3 (fun n : Int => [.int .i64 n]) (fun n => IntKind.min .i64 ≤ n ∧ n ≤ IntKind.max .i64) := Rdg.int Tryz.underlying3
theorem rdU16 : Rdg Tryz.prog 49 (fun n : Int => [.int .u16 n]) (fun n => IntKind.min .u16 ≤ n ∧ n ≤ IntKind.max .u16) := Rdg.int Tryz.underlying49
theorem rdI64 : Rdg Tryz.prog 2 (fun n : Int => [.int .i64 n]) (fun n => IntKind.min .i64 ≤ n ∧ n ≤ IntKind.max .i64) := Rdg.int Tryz.underlying2
theorem rdBool : Rdg Tryz.prog 4 (fun b : Bool => [.bool b]) (fun _ => True) := Rdg.bool Tryz.underlying4
theorem rdVec : Rdg Tryz.prog 24 (fun xs : List Int => [.slice 1 (ints xs)]) (fun xs => (∀ n ∈ xs, IntKind.min .i64 ≤ n ∧ n ≤ IntKind.max .i64) ∧ xs.length ≤ 9223372036854775807) :=
 Rdg.slice Tryz.underlying24 (by kernel_rfl) rdI64
theorem rdInts : Rdg Tryz.prog 43 (fun xs : List Int => [.slice 1 (ints xs)]) (fun xs => (∀ n ∈ xs, IntKind.min .i64 ≤ n ∧ n ≤ IntKind.max .i64) ∧ xs.length ≤ 9223372036854775807) :=
 Rdg.slice Tryz.underlying43 (by kernel_rfl) rdInt
theorem rdPod : Rdg Tryz.prog 26 pL (fun p : Pod => (∀ n ∈ p.2, IntKind.min .i64 ≤ n ∧ n ≤ IntKind.max .i64) ∧ p.2.length ≤ 9223372036854775807) :=
 Rdg.map (fun a : Int × (Int × (Bool × (Int × (List Int × (Int × (Int × (Int × (Int × Unit)))))))) => ((⟨a.1, a.2.1, a.2.2.1, a.2.2.2.1, a.2.2.2.2.2.1, a.2.2.2.2.2.2.1, a.2.2.2.2.2.2.2.1, a.2.2.2.2.2.2.2.2.1⟩, a.2.2.2.2.1) : Pod)) (Rdg.struct Tryz.underlying26 (N := 9) (by kernel_rfl)
  (RdgL.cons rfl (k := 1) (by kernel_rfl) (by omega) rdInt (RdgL.cons rfl (k := 1) (by kernel_rfl) (by omega) rdInt (RdgL.cons rfl (k := 1) (by kernel_rfl) (by omega) rdBool (RdgL.cons rfl (k := 1) (by kernel_rfl) (by omega) rdInt (RdgL.cons rfl (k := 1) (by kernel_rfl) (by omega) rdVec (RdgL.cons rfl (k := 1) (by kernel_rfl) (by omega) rdInt (RdgL.cons rfl (k := 1) (by kernel_rfl) (by omega) rdInt (RdgL.cons rfl (k := 1) (by kernel_rfl) (by omega) rdInt (RdgL.cons rfl (k := 1) (by kernel_rfl) (by omega) rdInt RdgL.nil)))))))))) (fun _ => rfl) (fun _ h => h.2.2.2.2.1)
theorem rdNode : Rdg Tryz.prog 70 nL (fun z : Int × List Int => (∀ n ∈ z.2, IntKind.min .i64 ≤ n ∧ n ≤ IntKind.max .i64) ∧ z.2.length ≤ 9223372036854775807) :=
 Rdg.map (fun a : Int × (List Int × Unit) => ((a.1, a.2.1) : Int × List Int)) (Rdg.struct Tryz.underlying70 (N := 2) (by kernel_rfl)
  (RdgL.cons rfl (k := 1) (by kernel_rfl) (by omega) rdInt (RdgL.cons rfl (k := 1) (by kernel_rfl) (by omega) rdVec RdgL.nil))) (fun _ => rfl) (fun _ h => h.2.1)
theorem rdNodes : Rdg Tryz.prog 22 (fun xs : List (Int × List Int) => [.slice 2 (nds xs)]) (fun xs => (∀ z ∈ xs, (∀ n ∈ z.2, IntKind.min .i64 ≤ n ∧ n ≤ IntKind.max .i64) ∧ z.2.length ≤ 9223372036854775807) ∧ xs.length ≤ 9223372036854775807) :=
 Rdg.slice Tryz.underlying22 (by kernel_rfl) rdNode
theorem rdPlc : Rdg Tryz.prog 77 xL (fun _ => True) :=
 Rdg.map (fun a : Pod × (Int × (List Int × Unit)) => ((a.1, a.2.1, a.2.2.1) : Plc)) (Rdg.struct Tryz.underlying77 (N := 11) (by kernel_rfl)
  (RdgL.cons rfl (k := 9) (by kernel_rfl) (by omega) rdPod (RdgL.cons rfl (k := 1) (by kernel_rfl) (by omega) rdInt (RdgL.cons rfl (k := 1) (by kernel_rfl) (by omega) rdInts RdgL.nil)))) (fun _ => rfl) (fun _ _ => trivial)
theorem rdPlcs : Rdg Tryz.prog 23 (fun xs : List Plc => [.slice 11 (plcs xs)]) (fun xs => (∀ x ∈ xs, True) ∧ xs.length ≤ 9223372036854775807) :=
 Rdg.slice Tryz.underlying23 (by kernel_rfl) rdPlc
end Go.Proofs.YtmeicgbddgeeoaaGreatDoor
end
