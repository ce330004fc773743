/-
  'hammocklaw10.TableApart' returns true for every input, and its arguments read behind the call as they read before. The variable that the card lists is tied to the program's text.
-/
import Derived.Test.YtdmdjiaocbccpaaDoorL4
import Derived.Test.YtdmdjiaocbccpaaDoorS0
import Derived.Test.YtdmdjiaocbccpaaDoorCards
import Derived.Test.YtdmdjiaocbccpaaDoorTie
import Derived.SevenTiedAt
set_option autoImplicit false
set_option linter.unusedVariables false
set_option linter.unusedSimpArgs false
namespace Go.Proofs.YtdmdjiaocbccpaaDoor
open Go.ChangeShapes Go.WideShapes Go.ChangeAt Go.RowKit Go.Abs

set_option maxRecDepth 100000 in
theorem law4_lifted (os : Os) (started : os.Started) (H : Type) (enc : TypeId × Value → H) :
    ReturnsInHanded {} Tryd.checked os 7 .any (fun w args => (Rows.tableApartSpec.pre enc Tryd.prog Tryd.f7 [] false w args ∧ laidMetH Tryd.prog (LaidAs Unit) w) ∧ sizedMet enc Tryd.prog Tryd.f7 (OpenSpec.ofChange Rows.tableApartSpec) false w args)
      (Rows.tableApartSpec.post enc Tryd.prog Tryd.f7 false true false false) := by
  refine returnsInHanded_of_change_and (C := Tryd.checked) (X := fun w _ => laidMetH Tryd.prog (LaidAs Unit) w) (fun _ _ _ hh h => h.of_heap hh) own started (by kernel_rfl) Tryd.func7
    (ChangeSpec.witness_at (enc := enc) (C := Tryd.checked) (os := os) (X := fun w _ => laidMetH Tryd.prog (LaidAs Unit) w) false (laidWorld os) #[.slice none 0 0] 8 rfl (by kernel_rfl) (by kernel_rfl) (by kernel_rfl) (by kernel_rfl) (by kernel_rfl) (laidWorld_met os _)) ?_
  intro W base args ds gs before hval0 hW _ _ hL _
  have hval : ∀ (j : Nat) t v, Tryd.f7.params[j]? = some t → args[j]? = some v → Value.okWide Tryd.prog W .any base t v := hval0
  have hW' := hW
  obtain ⟨p, q, hA0, hV, rfl, hfz, hnd⟩ := hW
  have hA : DataW.TrodAll enc Tryd.prog W 0 (fun _ => true) true Tryd.f7.params.toList args.toList ds p := hA0
  rw [Tryd.params7] at hA hval
  obtain ⟨v0, d0, rfl, rfl, h0⟩ := trodAll_one hA
  obtain ⟨a0, ⟨e0, f0⟩, r0⟩ := rdInts.arg (one_slice Tryd.underlying45 (hval 0 45 v0 rfl rfl)) h0
  refine (law_calls_g (law4 a0 e0 f0) (glob_of hL) (rvl1 r0)).mono fun e W' ⟨he, hb⟩ => ?_
  obtain ⟨rfl, rfl⟩ := trodVars_none hV
  exact ⟨_, he, post_true laidOut (by rw [Tryd.params7]; kernel_rfl) rfl Tryd.underlying4 rfl hW' rfl hb⟩

theorem law4_row : Rows.TableApartSaid :=
  OpenClaim.holds_of_wide 7 Tryd.f7 rfl rfl rfl rfl rfl rfl rfl ⟨rfl, rfl, rfl, rfl, rfl⟩ rfl rfl rfl rfl rfl (by kernel_rfl) Tryd.func7 (by kernel_rfl)
    (of_decide_eq_true (by kernel_rfl)) (by unfold Func.isWrapper; first | (rw [if_pos (by decide +kernel)]; kernel_rfl) | (rw [if_neg (by decide +kernel)]; exact ⟨rfl, rfl⟩))
    (fun os started H enc _ => law4_lifted os started H enc)

theorem law4_holds : Rows.TableApartCardSaid :=
  Claim7.holds_tied_plain_at .later [] [.handle] true (true, "f6dc8333862fabf998c3d3ab7ae5f9a339d52e4376b83f4b75d45bae756aff23") true
    law4_row (fun _ h => by cases h) (by kernel_rfl) (fun _ h => by cases h) tableApart_row_tie rfl ⟨rfl, rfl⟩ (by kernel_rfl) rfl
    (fun f fn hf hfn => by
      obtain rfl : f = 7 := Option.some.inj ((show Tryd.prog.funcNamed "hammock/hammocklaw10.TableApart" = some 7 by kernel_rfl).symm.trans hf) |>.symm
      obtain rfl : fn = Tryd.f7 := (Option.some.inj (Tryd.func7.symm.trans hfn)).symm
      exact ⟨by kernel_rfl, fun j t ht => by
        rw [Tryd.params7] at ht
        match j with
        | 0 => obtain rfl : 45 = t := by simpa using ht
               exact (show Tryd.prog.wantsStandIn 45 = false by kernel_rfl)
        | j + 1 => simp at ht⟩)
    (by kernel_rfl)
end Go.Proofs.YtdmdjiaocbccpaaDoor
