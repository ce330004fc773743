/-
  What a walk's reader needs beside the rules: arguments told more weakly, whole numbers in rows, wraps.
-/
import Derived.Test.YtjljjakfebfpfaaDoorAbs12
set_option autoImplicit false
set_option linter.unusedVariables false
set_option linter.unusedSimpArgs false
namespace Go.Abs

/-- A value that may pass for plain data. -/
def argOk (x : D) : AV → Prop
  | .d y => y = x ∨ (y = .nils ∧ ∃ sz, x = .slice sz [])
  | .svalf sz xs => x = .slice sz xs
  | _ => False
def argsOk : List D → List AV → Prop
  | [], [] => True
  | x :: l, a :: m => argOk x a ∧ argsOk l m
  | _, _ => False
theorem nils_slice {w : World} {F : Nat → Prop} {v : Value} (sz : Nat) (h : RD w F .nils v) : RD w F (.slice sz []) v := by
  cases h
  exact .slice sz [] none 0 (fun _ _ => undef) (by simp) (by simp) (by simp) (fun i x j d h => by simp at h) (fun i x j d h => by simp at h)
theorem argOk_ok {x : D} {a : AV} (h : argOk x a) {w : World} {F : Nat → Prop} {Γ : List Slot} {v : Value} (hv : RV w F Γ a v) : RV w F Γ (.d x) v := by
  cases a <;> simp only [argOk] at h
  · rcases h with rfl | ⟨rfl, sz, rfl⟩
    · exact hv
    · exact .d (nils_slice sz hv.of_d)
  · subst h
    cases hv with
    | svalf h => exact .d h
theorem argsOk_ok : ∀ {xs : List D} {as : List AV}, argsOk xs as → xs.length = as.length ∧ ∀ (j : Nat) x, xs[j]? = some x → ∃ a, as[j]? = some a ∧ argOk x a
  | [], [], _ => ⟨rfl, fun j x h => by simp at h⟩
  | x :: l, a :: m, h => by
    obtain ⟨h1, h2⟩ := h
    obtain ⟨h3, h4⟩ := argsOk_ok h2
    refine ⟨by simp [h3], fun j y hj => ?_⟩
    cases j with
    | zero => simp at hj; subst hj; exact ⟨a, by simp, h1⟩
    | succ j => simpa using h4 j y (by simpa using hj)
  | [], _ :: _, h => h.elim
  | _ :: _, [], h => h.elim

section
variable {E : Env} {H : List AObj} {n0 : Nat}
theorem ACalls.args {g : FuncId} {xs : List D} {as : List AV} {K : AV → List AObj → Prop} (h : ACalls E g (xs.map .d) H K) (ha : argsOk xs as) : ACalls E g as H K := by
  refine ⟨h.1, fun w F Γ vs hS hV => h.2 w F Γ vs hS ?_⟩
  obtain ⟨h1, h2⟩ := argsOk_ok ha
  refine ⟨by rw [hV.1, List.length_map, h1], fun j av hj => ?_⟩
  rw [List.getElem?_map] at hj
  cases hx : xs[j]? with
  | none => simp [hx] at hj
  | some x =>
    simp [hx] at hj
    subst hj
    obtain ⟨a, ha1, ha2⟩ := h2 j x hx
    exact argOk_ok ha2 (hV.2 j a ha1)
theorem PCall.go {g : FuncId} {args : List D} {r : D} (h : PCall E g args r) {as : List AV} {K : AV → List AObj → Prop} (ha : argsOk args as) (hK : K (.d r) H) : ACalls E g as H K :=
  ((h.anywhere H).mono fun v H' ⟨h1, h2⟩ => by subst h1 h2; exact hK).args ha
theorem PCall.hush {g : FuncId} {args : List D} {r : D} (h : PCall E g args r) {as : List AV} {K : AV → Prop} (ha : argsOk args as) (hK : K (.d r)) : ∃ v, ACalls E g as H (fun r H' => r = v ∧ H' = H) ∧ K v :=
  ⟨_, (h.anywhere H).args ha, hK⟩
theorem WK.now {K : K3} {t : List AV} {ds : List Nat} (h : K t H ds) : WK E n0 K t H ds := WK.here h
theorem WK.fgt {K : K3} {t t' : List AV} {ds : List Nat} (h : fgt t' t) (k : WK E n0 K t' H ds) : WK E n0 K t H ds := WK.step (Wk.forget h) k
theorem WK.frz (id : Nat) {ty : TypeId} {sz : Nat} {xs : List (List D)} {K : K3} {t : List AV} {ds : List Nat} (ho : H[id]? = some (.arr ty sz xs))
    (k : WK E n0 K (AV.frzL id sz xs t) ((H.set id .none).map (AObj.frz id sz xs)) ds) : WK E n0 K t H ds := WK.step (Wk.freeze id ho) k
theorem WK.nil (j : Nat) (ty : TypeId) (sz : Nat) {K : K3} {t : List AV} {ds : List Nat} (ht : t[j]? = some (.d .nils)) (k : WK E n0 K (t.set j (.sfull H.length)) (H ++ [.arr ty sz []]) ds) : WK E n0 K t H ds :=
  WK.step (Wk.nilarr j ty sz ht) k
theorem WK.sel (σ : List Nat) {K : K3} {t t' : List AV} {H' : List AObj} (hs : Sb σ H H') (ht : tellL (rn σ H.length) σ.length t' t) (hn0 : ∀ id, id < n0 → σ[id]? = some id) (k : WK E n0 K t' H' []) : WK E n0 K t H [] :=
  WK.step (Wk.tell σ hs ht hn0) k
end

/-! ### Wraps -/
theorem wrapi {n : Int} (h : -9223372036854775808 ≤ n) (h' : n ≤ 9223372036854775807) : IntKind.wrap .i64 n = n := by
  simp only [IntKind.wrap, IntKind.signed, IntKind.bits]
  simp
  omega
theorem wrap_eq (n : Int) : IntKind.wrap .i64 n = (n + 9223372036854775808) % 18446744073709551616 - 9223372036854775808 := by
  simp only [IntKind.wrap, IntKind.signed, IntKind.bits]
  simp
  omega
theorem wrapu_eq (n : Int) : IntKind.wrap .u64 n = n % 18446744073709551616 := by
  simp [IntKind.wrap, IntKind.signed, IntKind.bits]

theorem bits32 : min 32 64 = 32 := rfl
theorem bits63 : min 63 64 = 63 := rfl
theorem and32 (n : Int) : ibits .and .i64 n 4294967295 = n % 4294967296 := by
  have h : (BitVec.ofInt 64 n &&& BitVec.ofInt 64 4294967295).toNat = (n % 18446744073709551616).toNat % 4294967296 := by
    rw [BitVec.toNat_and, BitVec.toNat_ofInt, BitVec.toNat_ofInt]
    exact Nat.and_two_pow_sub_one_eq_mod _ 32
  have e : ibits .and .i64 n 4294967295 = IntKind.wrap .i64 ((BitVec.ofInt 64 n &&& BitVec.ofInt 64 4294967295).toNat : Nat) := rfl
  rw [e, h, wrap_eq]
  omega
theorem fdiv32 (n : Int) : n.fdiv (2 ^ 32) = n / 4294967296 := by
  rw [show (2 : Int) ^ 32 = 4294967296 by rfl, Int.fdiv_eq_ediv_of_nonneg _ (by decide)]
theorem fdiv63 (n : Int) : n.fdiv (2 ^ 63) = n / 9223372036854775808 := by
  rw [show (2 : Int) ^ 63 = 9223372036854775808 by rfl, Int.fdiv_eq_ediv_of_nonneg _ (by decide)]

/-! ### Rows of whole numbers -/
def ints (xs : List Int) : List (List D) := xs.map fun n => [.int .i64 n]
def sl (xs : List Int) : D := .slice 1 (ints xs)
def intss (l : List (List Int)) : List (List D) := l.map fun x => [sl x]
def sll (l : List (List Int)) : D := .slice 1 (intss l)
theorem ints_length (xs : List Int) : (ints xs).length = xs.length := by simp [ints]
theorem intss_length (xs : List (List Int)) : (intss xs).length = xs.length := by simp [intss]
theorem cel_ints {xs : List Int} {i : Nat} (h : i < xs.length) : cel (ints xs) i 0 = .int .i64 (xs.getD i 0) := by
  simp [cel, ints, List.getD_eq_getElem?_getD, h]
theorem cel_intss {xs : List (List Int)} {i : Nat} (h : i < xs.length) : cel (intss xs) i 0 = .slice 1 (ints (xs.getD i [])) := by
  simp [cel, intss, sl, List.getD_eq_getElem?_getD, h]
theorem upd_ints {xs : List Int} {i : Nat} {v : Int} (h : i < xs.length) : updN (ints xs) i 0 [.int .i64 v] = ints (xs.set i v) := by
  simp [updN, ints, splice, List.map_set, List.getD_eq_getElem?_getD, h]
theorem app_ints (xs ys : List Int) : ints xs ++ ints ys = ints (xs ++ ys) := by simp [ints]
theorem ints_nil : ints [] = [] := rfl
theorem ints_cons (x : Int) (xs : List Int) : ints (x :: xs) = [.int .i64 x] :: ints xs := rfl
theorem rep_ints (n : Nat) : List.replicate n [D.int .i64 0] = ints (List.replicate n 0) := by simp [ints]
end Go.Abs
