/-
  ReserveSees, walked.
-/
import Derived.Test.YtglmkjgajbiaaaaGreatDoorB3
section
set_option autoImplicit false
set_option linter.unusedVariables false
set_option linter.unusedSimpArgs false
namespace Go.Proofs.YtglmkjgajbiaaaaGreatDoor
open Go.Abs
theorem reserveSees_ok (p q : Pod) (n : Int) : PCall env 3 [fP p, fP q, .int .i64 n] (.bool true) := by
  refine acalls_of envOk Tryz.func3 rfl (by kernel_rfl) (m := 23) rfl ?_
  simp only [push_cast, simprocAttr, pods_length, fP, pL]
  refine DRegL.det [] [0, 1, 2, 3, 4, 5, 6, 7, 8, 9, 10, 11, 12, 13, 14, 15, 16, 17, 18, 19] [] (by kernel_rfl) (by kernel_rfl) (by kernel_rfl) ?_
  simp only [push_cast, simprocAttr, pods_length, fP, pL]
  refine awake15_ok.quiet' ⟨⟩ ?_
  simp only [push_cast, simprocAttr, pods_length, fP, pL]
  refine (sees_ok p q n).quiet' (by first | exact ⟨.inl rfl, trivial⟩ | exact ⟨.inl rfl, .inl rfl, trivial⟩ | exact ⟨.inl rfl, .inl rfl, .inl rfl, trivial⟩ | simp [argsOk, argOk, sl, sll]) ?_
  simp only [push_cast, simprocAttr, pods_length, fP, pL]
  refine (rsees_ok p q n).quiet' (by first | exact ⟨.inl rfl, trivial⟩ | exact ⟨.inl rfl, .inl rfl, trivial⟩ | exact ⟨.inl rfl, .inl rfl, .inl rfl, trivial⟩ | simp [argsOk, argOk, sl, sll]) ?_
  simp only [push_cast, simprocAttr, pods_length, fP, pL]
  refine (sees_ok p p n).quiet' (by first | exact ⟨.inl rfl, trivial⟩ | exact ⟨.inl rfl, .inl rfl, trivial⟩ | exact ⟨.inl rfl, .inl rfl, .inl rfl, trivial⟩ | simp [argsOk, argOk, sl, sll]) ?_
  simp only [B_false (show ¬ SeesP p p n from fun h => h.2.2.1 rfl), push_cast, simprocAttr, pods_length, fP, pL]
  refine WK.now ?_
  simp only [push_cast, simprocAttr, pods_length, fP, pL]
end Go.Proofs.YtglmkjgajbiaaaaGreatDoor
end
