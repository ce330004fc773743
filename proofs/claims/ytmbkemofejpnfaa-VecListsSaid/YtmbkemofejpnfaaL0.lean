/-
  Plain facts on sums of two vectors.
-/
import Derived.Test.YtmbkemofejpnfaaV8
set_option autoImplicit false
set_option linter.unusedVariables false
namespace Go.Proofs.Ytmbkemofejpnfaa
open Go.Abs

theorem colS_two (a b : List Int) (k : Nat) : colS [a, b] k = a.getD k 0 + b.getD k 0 := by simp [colS, psum, at2]
theorem addP_two (a b : List Int) : AddP [a, b] ↔ b.length = a.length ∧ ∀ k, k < a.length → I64 (a.getD k 0 + b.getD k 0) := by
  constructor
  · rintro ⟨_, h1, h2⟩
    exact ⟨h1 1 (by simp), fun k hk => by rw [← colS_two]; exact h2 k hk⟩
  · rintro ⟨h1, h2⟩
    refine ⟨by simp, fun j hj => ?_, fun k hk => by rw [colS_two]; exact h2 k hk⟩
    match j with
    | 0 => rfl
    | 1 => exact h1
    | j + 2 => simp at hj; omega
theorem add2 (a b : List Int) : (addS [a, b] = none ∧ ¬ AddP [a, b]) ∨
    ∃ xs, addS [a, b] = some xs ∧ b.length = a.length ∧ xs.length = a.length ∧ ∀ k, k < a.length → xs.getD k 0 = a.getD k 0 + b.getD k 0 ∧ I64 (a.getD k 0 + b.getD k 0) := by
  by_cases h : AddP [a, b]
  · right
    obtain ⟨h1, h2⟩ := (addP_two a b).1 h
    refine ⟨_, by rw [addS, B_true h]; rfl, h1, by simp, fun k hk => ⟨?_, h2 k hk⟩⟩
    rw [← colS_two]
    simp [List.getD_eq_getElem?_getD, hk]
  · exact .inl ⟨by rw [addS, B_false h]; rfl, h⟩
theorem ext_getD {a b : List Int} (hl : a.length = b.length) (h : ∀ k, k < a.length → a.getD k 0 = b.getD k 0) : a = b :=
  List.ext_getElem hl fun j h1 h2 => by
    have := h j h1
    simpa [List.getD_eq_getElem?_getD, h1, h2] using this
theorem inR_two {a b : List Int} (ha : InR a) (hb : InR b) : InRs [a, b] := smalls _ fun x hx => by
  simp at hx
  rcases hx with rfl | rfl
  · exact ha
  · exact hb
theorem sz_two {a b : List Int} (ha : Sz a) (hb : Sz b) : ∀ j, Sz (([a, b] : List (List Int)).getD j []) := sizes _ fun x hx => by
  simp at hx
  rcases hx with rfl | rfl
  · exact ha
  · exact hb
theorem inR_by {xs : List Int} {n : Nat} (hn : xs.length = n) (h : ∀ k, k < n → I64 (xs.getD k 0)) : InR xs := fun k => by
  by_cases hk : k < n
  · exact h k hk
  · rw [List.getD_eq_getElem?_getD, List.getElem?_eq_none (by omega)]; simp [I64]
end Go.Proofs.Ytmbkemofejpnfaa
