/-
  'hammocklaw01.VecMatchesReference' returns true for every input, and its argument reads behind the call as it read before. No condition.
-/
import Derived.Test.YtmbkemofejpnfaaL1
import Derived.Test.YtmbkemofejpnfaaAbs15
import Derived.Test.YtmbkemofejpnfaaRows
set_option autoImplicit false
set_option linter.unusedVariables false
namespace Go.Proofs.Ytmbkemofejpnfaa
open Go.ChangeShapes Go.WideShapes Go.ChangeAt Go.RowKit Go.Abs

theorem own : ownKnob Try.prog.godebug = none := by kernel_rfl
theorem laidOut : laidOutB Try.prog = true := by kernel_rfl
theorem noGl : ∀ g, env.gl g = none := fun _ => rfl
theorem min64 : IntKind.min .i64 = -9223372036854775808 := rfl
theorem max64 : IntKind.max .i64 = 9223372036854775807 := rfl
theorem rdInts : Rdg Try.prog 24 (fun xs : List Int => [sl xs]) (fun xs => (∀ n ∈ xs, IntKind.min .i64 ≤ n ∧ n ≤ IntKind.max .i64) ∧ xs.length ≤ 9223372036854775807) :=
  Rdg.slice Try.underlying24 (by kernel_rfl) (Rdg.int Try.underlying2)
theorem rdIntss : Rdg Try.prog 22 (fun xs : List (List Int) => [sll xs]) (fun xs => (∀ x ∈ xs, (∀ n ∈ x, IntKind.min .i64 ≤ n ∧ n ≤ IntKind.max .i64) ∧ x.length ≤ 9223372036854775807) ∧ xs.length ≤ 9223372036854775807) :=
  Rdg.slice Try.underlying22 (by kernel_rfl) rdInts
theorem inR_of {xs : List Int} (h : ∀ n ∈ xs, IntKind.min .i64 ≤ n ∧ n ≤ IntKind.max .i64) : InR xs := small xs fun x hx => by
  have := h x hx
  rw [min64, max64] at this
  exact this
theorem rvl1 {W : World} {a : D} {v : Value} (h : RD W (Old W) a v) : RVL W (Old W) [] ([a].map .d) #[v] := ⟨rfl, fun j av hj => by
  match j with
  | 0 => simp at hj; subst hj; exact .d h
  | j + 1 => simp at hj⟩
theorem rvl2 {W : World} {a b : D} {v u : Value} (h : RD W (Old W) a v) (k : RD W (Old W) b u) : RVL W (Old W) [] ([a, b].map .d) #[v, u] := ⟨rfl, fun j av hj => by
  match j with
  | 0 => simp at hj; subst hj; exact .d h
  | 1 => simp at hj; subst hj; exact .d k
  | j + 2 => simp at hj⟩
theorem rvl3 {W : World} {a b c : D} {v u x : Value} (h : RD W (Old W) a v) (k : RD W (Old W) b u) (m : RD W (Old W) c x) : RVL W (Old W) [] ([a, b, c].map .d) #[v, u, x] := ⟨rfl, fun j av hj => by
  match j with
  | 0 => simp at hj; subst hj; exact .d h
  | 1 => simp at hj; subst hj; exact .d k
  | 2 => simp at hj; subst hj; exact .d m
  | j + 3 => simp at hj⟩

set_option maxRecDepth 100000 in
theorem law1_lifted (os : Os) (started : os.Started) (H : Type) (enc : TypeId × Value → H) :
    ReturnsInHanded {} Try.checked os 3 .any (Rows.vecMatchesReferenceSpec.pre6 enc Try.prog Try.f3 Rows.vecMatchesReferenceRow.domain false) (Rows.vecMatchesReferenceSpec.post enc Try.prog Try.f3 false true false false) := by
  refine returnsInHanded_of_change (C := Try.checked) own started (by kernel_rfl) Try.func3
    (ChangeSpec.witness6 (enc := enc) (C := Try.checked) false ⟨#[], #[.slice none 0 0], []⟩ 8 (by kernel_rfl) (by kernel_rfl) (by kernel_rfl) (by kernel_rfl)) ?_
  intro W base args ds gs before hval0 hW hcnd _
  have hval : ∀ (j : Nat) t v, Try.f3.params[j]? = some t → args[j]? = some v → Value.okWide Try.prog W .any base t v := hval0
  have hW' := hW
  obtain ⟨p, q, hA0, hV, rfl, hfz, hnd⟩ := hW
  have hA : DataW.TrodAll enc Try.prog W 0 (fun _ => true) true Try.f3.params.toList args.toList ds p := hA0
  rw [Try.params3] at hA hval
  obtain ⟨v0, d0, rfl, rfl, h0⟩ := trodAll_one hA
  obtain ⟨l, ⟨hl, hlen⟩, r0⟩ := rdIntss.arg (one_slice Try.underlying22 (hval 0 22 v0 rfl rfl)) h0
  refine (law_calls noGl (law1_ok l (smalls _ fun x hx => inR_of (hl x hx).1) hlen) (rvl1 r0)).mono fun e W' ⟨he, hb⟩ => ?_
  obtain ⟨rfl, rfl⟩ := trodVars_none hV
  exact ⟨_, he, post_true laidOut (by rw [Try.params3]; kernel_rfl) rfl Try.underlying4 rfl hW' rfl hb⟩

theorem law1_holds : Rows.VecMatchesReferenceSaid :=
  OpenClaim.holds_of_wide 3 Try.f3 rfl rfl rfl rfl rfl rfl rfl ⟨rfl, rfl, rfl, rfl, rfl⟩ rfl rfl rfl rfl rfl (by kernel_rfl) Try.func3 (by kernel_rfl)
    (of_decide_eq_true (by kernel_rfl)) (by unfold Func.isWrapper; first | (rw [if_pos (by decide +kernel)]; kernel_rfl) | (rw [if_neg (by decide +kernel)]; exact ⟨rfl, rfl⟩))
    (fun os started H enc _ => law1_lifted os started H enc)
end Go.Proofs.Ytmbkemofejpnfaa
