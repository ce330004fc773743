/-
  'hammocklaw01.VecLists' returns true for every input, and its arguments read behind the call as they read before. No condition.
-/
import Derived.Test.YtmbkemofejpnfaaL5
import Derived.Test.YtmbkemofejpnfaaS0
set_option autoImplicit false
set_option linter.unusedVariables false
namespace Go.Proofs.Ytmbkemofejpnfaa
open Go.ChangeShapes Go.WideShapes Go.ChangeAt Go.RowKit Go.Abs

set_option maxRecDepth 100000 in
theorem law5_lifted (os : Os) (started : os.Started) (H : Type) (enc : TypeId × Value → H) :
    ReturnsInHanded {} Try.checked os 7 .any (Rows.vecListsSpec.pre6 enc Try.prog Try.f7 Rows.vecListsRow.domain false) (Rows.vecListsSpec.post enc Try.prog Try.f7 false true false false) := by
  refine returnsInHanded_of_change (C := Try.checked) own started (by kernel_rfl) Try.func7
    (ChangeSpec.witness6 (enc := enc) (C := Try.checked) false ⟨#[], #[.slice none 0 0, .int .u8 0], []⟩ 8 (by kernel_rfl) (by kernel_rfl) (by kernel_rfl) (by kernel_rfl)) ?_
  intro W base args ds gs before hval0 hW hcnd _
  have hval : ∀ (j : Nat) t v, Try.f7.params[j]? = some t → args[j]? = some v → Value.okWide Try.prog W .any base t v := hval0
  have hW' := hW
  obtain ⟨p, q, hA0, hV, rfl, hfz, hnd⟩ := hW
  have hA : DataW.TrodAll enc Try.prog W 0 (fun _ => true) true Try.f7.params.toList args.toList ds p := hA0
  rw [Try.params7] at hA hval
  obtain ⟨v0, v1, d0, d1, p0, p1, rfl, rfl, rfl, h0, h1⟩ := trodAll_two hA
  obtain ⟨a0, ⟨hl0, hn0⟩, r0⟩ := rdIntss.arg (one_slice Try.underlying22 (hval 0 22 v0 rfl rfl)) h0
  obtain ⟨a1, hl1, r1⟩ := rdU8.arg (one_int Try.underlying5 (hval 1 5 v1 rfl rfl)) h1
  refine (law_calls noGl (law5_ok a0 a1 (smalls _ fun x hx => inR_of (hl0 x hx).1) hl1) (rvl2 r0 r1)).mono fun e W' ⟨he, hb⟩ => ?_
  obtain ⟨rfl, rfl⟩ := trodVars_none hV
  exact ⟨_, he, post_true laidOut (by rw [Try.params7]; kernel_rfl) rfl Try.underlying4 rfl hW' rfl hb⟩

theorem law5_holds : Rows.VecListsSaid :=
  OpenClaim.holds_of_wide 7 Try.f7 rfl rfl rfl rfl rfl rfl rfl ⟨rfl, rfl, rfl, rfl, rfl⟩ rfl rfl rfl rfl rfl (by kernel_rfl) Try.func7 (by kernel_rfl)
    (of_decide_eq_true (by kernel_rfl)) (by unfold Func.isWrapper; first | (rw [if_pos (by decide +kernel)]; kernel_rfl) | (rw [if_neg (by decide +kernel)]; exact ⟨rfl, rfl⟩))
    (fun os started H enc _ => law5_lifted os started H enc)
end Go.Proofs.Ytmbkemofejpnfaa
