/-
  'hammocklaw11.ClassApart' returns true for every input, and its arguments read behind the call as they read before. The variable that the card lists is tied to the program's text.
-/
import Derived.Test.YtjljjakfebfpfaaDoorC5
import Derived.Test.YtjljjakfebfpfaaDoorSC0
import Derived.Test.YtjljjakfebfpfaaDoorCards
import Derived.Test.YtjljjakfebfpfaaDoorTie
import Derived.SevenTiedAt
set_option autoImplicit false
set_option linter.unusedVariables false
set_option linter.unusedSimpArgs false
namespace Go.Proofs.YtjljjakfebfpfaaDoor
open Go.ChangeShapes Go.WideShapes Go.ChangeAt Go.RowKit Go.Abs

set_option maxRecDepth 100000 in
theorem law5_lifted (os : Os) (started : os.Started) (H : Type) (enc : TypeId × Value → H) :
    ReturnsInHanded {} Tryd.checked os 5 .any (fun w args => (Rows.classApartSpec.pre enc Tryd.prog Tryd.f5 [] false w args ∧ laidMetH Tryd.prog (LaidAs Unit) w) ∧ sizedMet enc Tryd.prog Tryd.f5 (OpenSpec.ofChange Rows.classApartSpec) false w args)
      (Rows.classApartSpec.post enc Tryd.prog Tryd.f5 false true false false) := by
  refine returnsInHanded_of_change_and (C := Tryd.checked) (X := fun w _ => laidMetH Tryd.prog (LaidAs Unit) w) (fun _ _ _ hh h => h.of_heap hh) own started (by kernel_rfl) Tryd.func5
    (ChangeSpec.witness_at (enc := enc) (C := Tryd.checked) (os := os) (X := fun w _ => laidMetH Tryd.prog (LaidAs Unit) w) false (laidWorld os) #[.slice none 0 0, .agg #[.int .i64 0, .int .i64 0, .int .i64 0, .int .i64 0, .bool false, .slice none 0 0]] 8 rfl (by kernel_rfl) (by kernel_rfl) (by kernel_rfl) (by kernel_rfl) (by kernel_rfl) (laidWorld_met os _)) ?_
  intro W base args ds gs before hval0 hW _ _ hL _
  have hval : ∀ (j : Nat) t v, Tryd.f5.params[j]? = some t → args[j]? = some v → Value.okWide Tryd.prog W .any base t v := hval0
  have hW' := hW
  obtain ⟨p, q, hA0, hV, rfl, hfz, hnd⟩ := hW
  have hA : DataW.TrodAll enc Tryd.prog W 0 (fun _ => true) true Tryd.f5.params.toList args.toList ds p := hA0
  rw [Tryd.params5] at hA hval
  obtain ⟨v0, v1, d0, d1, p0, p1, rfl, rfl, rfl, h0, h1⟩ := trodAll_two hA
  obtain ⟨a0, ⟨_, f0⟩, r0⟩ := rdClss.arg (one_slice Tryd.underlying22 (hval 0 22 v0 rfl rfl)) h0
  obtain ⟨a1, ⟨e1, f1⟩, r1⟩ := rdOp.argS (okWide_struct Tryd.underlying45 (hval 1 45 v1 rfl rfl)) h1
  refine (law_calls_g (law5 a0 a1 f0 e1) (glob_of hL) (rvl2 r0 r1)).mono fun e W' ⟨he, hb⟩ => ?_
  obtain ⟨rfl, rfl⟩ := trodVars_none hV
  exact ⟨_, he, post_true laidOut (by rw [Tryd.params5]; kernel_rfl) rfl Tryd.underlying4 rfl hW' rfl hb⟩

theorem law5_row : Rows.ClassApartSaid :=
  OpenClaim.holds_of_wide 5 Tryd.f5 rfl rfl rfl rfl rfl rfl rfl ⟨rfl, rfl, rfl, rfl, rfl⟩ rfl rfl rfl rfl rfl (by kernel_rfl) Tryd.func5 (by kernel_rfl)
    (of_decide_eq_true (by kernel_rfl)) (by unfold Func.isWrapper; first | (rw [if_pos (by decide +kernel)]; kernel_rfl) | (rw [if_neg (by decide +kernel)]; exact ⟨rfl, rfl⟩))
    (fun os started H enc _ => law5_lifted os started H enc)

theorem law5_holds : Rows.ClassApartCardSaid :=
  Claim7.holds_tied_plain_at .later [] [.handle] true (true, "806a37cb38a9ed9eef453af8e2df942b2782729a86c7461b62db36f9e9149a4c") true
    law5_row (fun _ h => by cases h) (by kernel_rfl) (fun _ h => by cases h) classApart_row_tie rfl ⟨rfl, rfl⟩ (by kernel_rfl) rfl
    (fun f fn hf hfn => by
      obtain rfl : f = 5 := Option.some.inj ((show Tryd.prog.funcNamed "hammock/hammocklaw11.ClassApart" = some 5 by kernel_rfl).symm.trans hf) |>.symm
      obtain rfl : fn = Tryd.f5 := (Option.some.inj (Tryd.func5.symm.trans hfn)).symm
      exact ⟨by kernel_rfl, fun j t ht => by
        rw [Tryd.params5] at ht
        match j with
        | 0 => obtain rfl : 22 = t := by simpa using ht
               exact (show Tryd.prog.wantsStandIn 22 = false by kernel_rfl)
        | 1 => obtain rfl : 45 = t := by simpa using ht
               exact (show Tryd.prog.wantsStandIn 45 = false by kernel_rfl)
        | j + 2 => simp at ht⟩)
    (by kernel_rfl)
end Go.Proofs.YtjljjakfebfpfaaDoor
