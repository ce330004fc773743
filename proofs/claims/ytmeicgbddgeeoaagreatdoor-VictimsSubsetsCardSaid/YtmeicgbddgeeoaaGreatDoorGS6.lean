/-
  'hammocklaw18.VictimsSubsets' returns true for every input, and its arguments read behind the call as they read before. The variable that the card lists is tied to the program's text.
-/
import Derived.Test.YtmeicgbddgeeoaaGreatDoorK6
import Derived.Test.YtmeicgbddgeeoaaGreatDoorGS0
import Derived.Test.YtmeicgbddgeeoaaGreatDoorCards
import Derived.Test.YtmeicgbddgeeoaaGreatDoorTie
import Derived.SevenTiedAt
section
set_option autoImplicit false
set_option linter.unusedVariables false
set_option linter.unusedSimpArgs false
namespace Go.Proofs.YtmeicgbddgeeoaaGreatDoor
open Go.ChangeShapes Go.WideShapes Go.ChangeAt Go.RowKit Go.Abs
set_option maxRecDepth 100000 in
theorem law6_lifted (os : Os) (started : os.Started) (H : Type) (enc : TypeId × Value → H) :
  ReturnsInHanded {} Tryz.checked os 6 .any (fun w args => (Rows.victimsSubsetsSpec.pre enc Tryz.prog Tryz.f6 [] false w args ∧ laidMetH Tryz.prog (LaidAs Unit) w) ∧ sizedMet enc Tryz.prog Tryz.f6 (OpenSpec.ofChange Rows.victimsSubsetsSpec) false w args)
   (Rows.victimsSubsetsSpec.post enc Tryz.prog Tryz.f6 false true false false) := by
 refine returnsInHanded_of_change_and (C := Tryz.checked) (X := fun w _ => laidMetH Tryz.prog (LaidAs Unit) w) (fun _ _ _ hh h => h.of_heap hh) own started (by kernel_rfl) Tryz.func6
  (ChangeSpec.witness_at (enc := enc) (C := Tryz.checked) (os := os) (X := fun w _ => laidMetH Tryz.prog (LaidAs Unit) w) false (laidWorld os) #[.slice none 0 0, .slice none 0 0, .agg #[.int .i64 0, .int .i64 0, .bool false, .int .i64 0, .slice none 0 0, .int .i64 0, .int .i64 0, .int .i64 0, .int .i64 0], .int .i64 0, .int .u16 0] 8 rfl (by kernel_rfl) (by kernel_rfl) (by kernel_rfl) (by kernel_rfl) (by kernel_rfl) (laidWorld_met os _)) ?_
 intro W base args ds gs before hval0 hW _ _ hL _
 have hval : ∀ (j : Nat) t v, Tryz.f6.params[j]? = some t → args[j]? = some v → Value.okWide Tryz.prog W .any base t v := hval0
 have hW' := hW
 obtain ⟨p, q, hA0, hV, rfl, hfz, hnd⟩ := hW
 have hA : DataW.TrodAll enc Tryz.prog W 0 (fun _ => true) true Tryz.f6.params.toList args.toList ds p := hA0
 rw [Tryz.params6] at hA hval
 obtain ⟨v0, v1, v2, v3, v4, d0, d1, d2, d3, d4, p0, p1, p2, p3, p4, rfl, rfl, rfl, h0, h1, h2, h3, h4⟩ := trodAll_five hA
 obtain ⟨a0, f0, r0⟩ := rdNodes.arg (one_slice Tryz.underlying22 (hval 0 22 v0 rfl rfl)) h0
 obtain ⟨a1, f1, r1⟩ := rdPlcs.arg (one_slice Tryz.underlying23 (hval 1 23 v1 rfl rfl)) h1
 obtain ⟨a2, ⟨e2, f2⟩, r2⟩ := rdPod.argS (okWide_struct Tryz.underlying26 (hval 2 26 v2 rfl rfl)) h2
 obtain ⟨a3, f3, r3⟩ := rdInt.arg (one_int Tryz.underlying3 (hval 3 3 v3 rfl rfl)) h3
 obtain ⟨a4, f4, r4⟩ := rdU16.arg (one_int Tryz.underlying49 (hval 4 49 v4 rfl rfl)) h4
 refine (law_calls_g (victimsSubsets_ok a0 a1 a2 a3 a4) (glob_of hL) (rvl5 r0 r1 r2 r3 r4)).mono fun e W' ⟨he, hb⟩ => ?_
 obtain ⟨rfl, rfl⟩ := trodVars_none hV
 exact ⟨_, he, post_true laidOut (by rw [Tryz.params6]; kernel_rfl) rfl Tryz.underlying4 rfl hW' rfl hb⟩
theorem law6_row : Rows.VictimsSubsetsSaid :=
 OpenClaim.holds_of_wide 6 Tryz.f6 rfl rfl rfl rfl rfl rfl rfl ⟨rfl, rfl, rfl, rfl, rfl⟩ rfl rfl rfl rfl rfl (by kernel_rfl) Tryz.func6 (by kernel_rfl)
  (of_decide_eq_true (by kernel_rfl)) (by unfold Func.isWrapper; first | (rw [if_pos (by decide +kernel)]; kernel_rfl) | (rw [if_neg (by decide +kernel)]; exact ⟨rfl, rfl⟩))
  (fun os started H enc _ => law6_lifted os started H enc)
theorem law6_holds : Rows.VictimsSubsetsCardSaid :=
 Claim7.holds_tied_plain_at .later [] [.handle] true (true, "fc8d04cf4604458d72450ce80ace9ec7af588b13d77d7a1cd1737c826a4e933d") true
  law6_row (fun _ h => by cases h) (by kernel_rfl) (fun _ h => by cases h) victimsSubsets_row_tie rfl ⟨rfl, rfl⟩ (by kernel_rfl) rfl
  (fun f fn hf hfn => by
   obtain rfl : f = 6 := Option.some.inj ((show Tryz.prog.funcNamed "hammock/hammocklaw18.VictimsSubsets" = some 6 by kernel_rfl).symm.trans hf) |>.symm
   obtain rfl : fn = Tryz.f6 := (Option.some.inj (Tryz.func6.symm.trans hfn)).symm
   exact ⟨by kernel_rfl, fun j t ht => by
    rw [Tryz.params6] at ht
    match j with
    | 0 => obtain rfl : 22 = t := by simpa using ht
           exact (show Tryz.prog.wantsStandIn 22 = false by kernel_rfl)
    | 1 => obtain rfl : 23 = t := by simpa using ht
           exact (show Tryz.prog.wantsStandIn 23 = false by kernel_rfl)
    | 2 => obtain rfl : 26 = t := by simpa using ht
           exact (show Tryz.prog.wantsStandIn 26 = false by kernel_rfl)
    | 3 => obtain rfl : 3 = t := by simpa using ht
           exact (show Tryz.prog.wantsStandIn 3 = false by kernel_rfl)
    | 4 => obtain rfl : 49 = t := by simpa using ht
           exact (show Tryz.prog.wantsStandIn 49 = false by kernel_rfl)
    | j + 5 => simp at ht⟩)
  (by kernel_rfl)
end Go.Proofs.YtmeicgbddgeeoaaGreatDoor
end
