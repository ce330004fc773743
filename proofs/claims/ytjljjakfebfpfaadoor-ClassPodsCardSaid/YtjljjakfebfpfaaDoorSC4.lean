/-
  'hammocklaw11.ClassPods' returns true for every input, and its arguments read behind the call as they read before. The variable that the card lists is tied to the program's text.
-/
import Derived.Test.YtjljjakfebfpfaaDoorC4
import Derived.Test.YtjljjakfebfpfaaDoorSC0
import Derived.Test.YtjljjakfebfpfaaDoorCards
import Derived.Test.YtjljjakfebfpfaaDoorTie
import Derived.SevenTiedAt
set_option autoImplicit false
set_option linter.unusedVariables false
set_option linter.unusedSimpArgs false
namespace Go.Proofs.YtjljjakfebfpfaaDoor
open Go.ChangeShapes Go.WideShapes Go.ChangeAt Go.RowKit Go.Abs

set_option maxRecDepth 100000 in
theorem law4_lifted (os : Os) (started : os.Started) (H : Type) (enc : TypeId × Value → H) :
    ReturnsInHanded {} Tryd.checked os 4 .any (fun w args => (Rows.classPodsSpec.pre enc Tryd.prog Tryd.f4 [] false w args ∧ laidMetH Tryd.prog (LaidAs Unit) w) ∧ sizedMet enc Tryd.prog Tryd.f4 (OpenSpec.ofChange Rows.classPodsSpec) false w args)
      (Rows.classPodsSpec.post enc Tryd.prog Tryd.f4 false true false false) := by
  refine returnsInHanded_of_change_and (C := Tryd.checked) (X := fun w _ => laidMetH Tryd.prog (LaidAs Unit) w) (fun _ _ _ hh h => h.of_heap hh) own started (by kernel_rfl) Tryd.func4
    (ChangeSpec.witness_at (enc := enc) (C := Tryd.checked) (os := os) (X := fun w _ => laidMetH Tryd.prog (LaidAs Unit) w) false (laidWorld os) #[.slice none 0 0, .agg #[.int .i64 0, .int .i64 0, .int .i64 0, .int .i64 0, .bool false, .slice none 0 0], .int .i64 0] 8 rfl (by kernel_rfl) (by kernel_rfl) (by kernel_rfl) (by kernel_rfl) (by kernel_rfl) (laidWorld_met os _)) ?_
  intro W base args ds gs before hval0 hW _ _ hL _
  have hval : ∀ (j : Nat) t v, Tryd.f4.params[j]? = some t → args[j]? = some v → Value.okWide Tryd.prog W .any base t v := hval0
  have hW' := hW
  obtain ⟨p, q, hA0, hV, rfl, hfz, hnd⟩ := hW
  have hA : DataW.TrodAll enc Tryd.prog W 0 (fun _ => true) true Tryd.f4.params.toList args.toList ds p := hA0
  rw [Tryd.params4] at hA hval
  obtain ⟨v0, v1, v2, d0, d1, d2, p0, p1, p2, rfl, rfl, rfl, h0, h1, h2⟩ := trodAll_three hA
  obtain ⟨a0, ⟨_, f0⟩, r0⟩ := rdClss.arg (one_slice Tryd.underlying22 (hval 0 22 v0 rfl rfl)) h0
  obtain ⟨a1, ⟨e1, f1⟩, r1⟩ := rdOp.argS (okWide_struct Tryd.underlying45 (hval 1 45 v1 rfl rfl)) h1
  obtain ⟨a2, f2, r2⟩ := rdInt.arg (one_int Tryd.underlying3 (hval 2 3 v2 rfl rfl)) h2
  refine (law_calls_g (law4 a0 a1 a2 f0 e1) (glob_of hL) (rvl3 r0 r1 r2)).mono fun e W' ⟨he, hb⟩ => ?_
  obtain ⟨rfl, rfl⟩ := trodVars_none hV
  exact ⟨_, he, post_true laidOut (by rw [Tryd.params4]; kernel_rfl) rfl Tryd.underlying4 rfl hW' rfl hb⟩

theorem law4_row : Rows.ClassPodsSaid :=
  OpenClaim.holds_of_wide 4 Tryd.f4 rfl rfl rfl rfl rfl rfl rfl ⟨rfl, rfl, rfl, rfl, rfl⟩ rfl rfl rfl rfl rfl (by kernel_rfl) Tryd.func4 (by kernel_rfl)
    (of_decide_eq_true (by kernel_rfl)) (by unfold Func.isWrapper; first | (rw [if_pos (by decide +kernel)]; kernel_rfl) | (rw [if_neg (by decide +kernel)]; exact ⟨rfl, rfl⟩))
    (fun os started H enc _ => law4_lifted os started H enc)

theorem law4_holds : Rows.ClassPodsCardSaid :=
  Claim7.holds_tied_plain_at .later [] [.handle] true (true, "806a37cb38a9ed9eef453af8e2df942b2782729a86c7461b62db36f9e9149a4c") true
    law4_row (fun _ h => by cases h) (by kernel_rfl) (fun _ h => by cases h) classPods_row_tie rfl ⟨rfl, rfl⟩ (by kernel_rfl) rfl
    (fun f fn hf hfn => by
      obtain rfl : f = 4 := Option.some.inj ((show Tryd.prog.funcNamed "hammock/hammocklaw11.ClassPods" = some 4 by kernel_rfl).symm.trans hf) |>.symm
      obtain rfl : fn = Tryd.f4 := (Option.some.inj (Tryd.func4.symm.trans hfn)).symm
      exact ⟨by kernel_rfl, fun j t ht => by
        rw [Tryd.params4] at ht
        match j with
        | 0 => obtain rfl : 22 = t := by simpa using ht
               exact (show Tryd.prog.wantsStandIn 22 = false by kernel_rfl)
        | 1 => obtain rfl : 45 = t := by simpa using ht
               exact (show Tryd.prog.wantsStandIn 45 = false by kernel_rfl)
        | 2 => obtain rfl : 3 = t := by simpa using ht
               exact (show Tryd.prog.wantsStandIn 3 = false by kernel_rfl)
        | j + 3 => simp at ht⟩)
    (by kernel_rfl)
end Go.Proofs.YtjljjakfebfpfaaDoor
