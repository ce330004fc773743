/-
  Classes and faults, by value.
-/
import Derived.Test.YtjljjakfebfpfaaDoorCT0
import Derived.Test.YtjljjakfebfpfaaDoorCEnv
set_option autoImplicit false
set_option linter.unusedVariables false
set_option linter.unusedSimpArgs false
namespace Go.Proofs.YtjljjakfebfpfaaDoor
open Go.Abs

/-- A class: id, priority, whether it preempts. -/
abbrev Cls := Int × Int × Bool
def cD (c : Cls) : List D := [.int .i64 c.1, .int .i64 c.2.1, .bool c.2.2]
def fC (c : Cls) : D := .agg (cD c)
def cls (l : List Cls) : List (List D) := l.map cD
theorem cls_length (l : List Cls) : (cls l).length = l.length := by simp [cls]
theorem cls_get {l : List Cls} {i : Nat} (h : i < l.length) : (cls l).getD i [] = cD (l.getD i (0, 0, false)) := by simp [cls, List.getD_eq_getElem?_getD, h]
theorem cel_cls0 {l : List Cls} {i : Nat} (h : i < l.length) : cel (cls l) i 0 = .int .i64 (l.getD i (0, 0, false)).1 := by unfold cel; rw [cls_get h]; rfl
theorem cel_cls1 {l : List Cls} {i : Nat} (h : i < l.length) : cel (cls l) i 1 = .int .i64 (l.getD i (0, 0, false)).2.1 := by unfold cel; rw [cls_get h]; rfl
theorem cel_cls2 {l : List Cls} {i : Nat} (h : i < l.length) : cel (cls l) i 2 = .bool (l.getD i (0, 0, false)).2.2 := by unfold cel; rw [cls_get h]; rfl
theorem seg_cls {l : List Cls} {i : Nat} (h : i < l.length) : seg (cls l) i 0 3 = cD (l.getD i (0, 0, false)) := by unfold seg; rw [cls_get h]; rfl
theorem cls_app (x y : List Cls) : cls x ++ cls y = cls (x ++ y) := by simp [cls]
theorem cls_one (c : Cls) : [cD c] = cls [c] := rfl
/-- A fault, or none. -/
def errF : Option (Int × Int) → D
  | none => .nili
  | some p => .iface 122 (.agg [.int .i64 p.1, .int .i64 p.2])
end Go.Proofs.YtjljjakfebfpfaaDoor
