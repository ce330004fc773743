/-
  The facts that a program's tables must bear out.
-/
import Derived.Test.YtjljjakfebfpfaaDoorAbs11
import Derived.Laws.Externs
set_option autoImplicit false
set_option linter.unusedVariables false
set_option linter.unusedSimpArgs false
namespace Go.Abs

/-- The zero value has the shape of its kind. -/
def zk (k : Kd) (z : Value) : Bool := match k, z with
  | .struct _, .agg _ => true
  | .array _ _, .agg _ => true
  | .struct _, _ => false
  | .array _ _, _ => false
  | _, .agg _ => false
  | _, .tuple _ => false
  | _, _ => true
/-- A type's facts, as the program's tables have them. -/
structure TyOk (P : Program) (t : TypeId) (i : TI) : Prop where
  desc : ∃ d, P.underlying t = some d ∧ i.k.fits d
  info : ∃ inf z, P.info? t = some inf ∧ inf.size = i.size ∧ inf.bytes = i.bytes ∧ inf.zero = some z ∧ z.cells.toList.map cst = i.zero.map .d ∧ i.zero.length = i.size ∧ i.zero.all D.one = true ∧ zk i.k z = true

theorem TyOk.info' {P : Program} {t : TypeId} {i : TI} (h : TyOk P t i) : ∃ inf z, P.info? t = some inf ∧ inf.size = i.size ∧ inf.bytes = i.bytes ∧ inf.zero = some z ∧
    z.cells.size = i.zero.length ∧ i.zero.length = i.size ∧ (∀ (j : Nat) d, i.zero[j]? = some d → (z.cells.getD j undef).oneCell' = true ∧ ∀ w F, RD w F d (z.cells.getD j undef)) ∧ ∀ w F, RD w F i.zv z := by
  obtain ⟨inf, z, h1, h2, h3, h4, h5, h6, h7, h8⟩ := h.info
  have hl : z.cells.size = i.zero.length := by
    have := congrArg List.length h5
    simpa using this
  have each : ∀ (j : Nat) d, i.zero[j]? = some d → (z.cells.getD j undef).oneCell' = true ∧ ∀ w F, RD w F d (z.cells.getD j undef) := fun j d hj => by
    have hlt : j < z.cells.size := by rw [hl]; exact (List.getElem?_eq_some_iff.1 hj).1
    have e : cst (z.cells.getD j undef) = .d d := by
      have h8 : (z.cells.toList.map cst)[j]? = (i.zero.map AV.d)[j]? := by rw [h5]
      rw [List.getElem?_map, List.getElem?_map, hj, Array.getElem?_toList, getD_of hlt] at h8
      simpa using h8
    have hrd : ∀ w F, RD w F d (z.cells.getD j undef) := fun w F => by
      have := cst_ok w F [] (z.cells.getD j undef)
      rw [e] at this
      exact this.of_d
    have h1 : d.one = true := List.all_eq_true.1 h7 d (List.mem_of_getElem? hj)
    exact ⟨by rw [(hrd ⟨#[], default, 0, default, default⟩ (fun _ => False)).one_iff]; exact h1, hrd⟩
  refine ⟨inf, z, h1, h2, h3, h4, hl, h6, each, fun w F => ?_⟩
  have agg : (∃ vs, z = .agg vs) → RD w F (.agg i.zero) z := by
    rintro ⟨vs, rfl⟩
    refine .agg _ vs hl (fun j hj => ?_) (fun j d hj => (each j d hj).2 w F)
    have : j < i.zero.length := by rw [← hl]; exact hj
    exact (each j _ (List.getElem?_eq_getElem this)).1
  have one : z.cells = #[z] → RD w F (i.zero.getD 0 .nilp) z := fun hc => by
    have hz : i.zero.length = 1 := by rw [← hl, hc]; rfl
    have hg : i.zero[0]? = some (i.zero.getD 0 .nilp) := by rw [List.getD_eq_getElem?_getD, List.getElem?_eq_getElem (by omega)]; rfl
    have := (each 0 _ hg).2 w F
    rw [hc] at this
    simpa using this
  unfold TI.zv
  cases hk : i.k <;> rw [hk] at h8 <;> simp only <;> cases z <;> first | exact agg ⟨_, rfl⟩ | exact one rfl | (simp [zk] at h8)

structure ExtOk (P : Program) (g : FuncId) (f : List AV → Option AV) : Prop where
  run : ∀ as v, f as = some v → ∀ w F Γ vs, RVL w F Γ as vs → ∃ u, (callFunc g vs).run P w = .ok (.value u) w ∧ RV w F Γ v u

theorem envOk_of {E : Env} (hty : ∀ t i, E.ty t = some i → TyOk E.P t i) (hm : E.P.follows .mixedOrders = true) (hx : ∀ g f, E.ext g = some f → ExtOk E.P g f) (hk : ∀ t g, E.key t = some g → KeyLaw E.P t g)
    (hc : ∀ t g, E.cmp t = some g → CmpLaw E.P t g := by intro t g h; cases h) : EnvOk E where
  key := hk
  cmp := hc
  desc t i h := (hty t i h).desc
  info t i h := (hty t i h).info'
  mixed := hm
  ext g f h := (hx g f h).run

def look {β : Type} : List (Nat × β) → Nat → Option β
  | [], _ => none
  | (a, b) :: l, t => if t = a then some b else look l t
theorem look_all {β : Type} {p : Nat → β → Prop} : ∀ {l : List (Nat × β)}, (∀ x ∈ l, p x.1 x.2) → ∀ t i, look l t = some i → p t i
  | [], _, t, i, h => by simp [look] at h
  | (a, b) :: l, hl, t, i, h => by
    simp only [look] at h
    split at h
    · rename_i e
      subst e
      obtain rfl := Option.some.inj h
      exact hl (t, b) (by simp)
    · exact look_all (fun x hx => hl x (by simp [hx])) t i h

/-! ### math/bits.Add64 -/
def add64A : List AV → Option AV
  | [.d (.int .u64 x), .d (.int .u64 y), .d (.int .u64 c)] => if 0 ≤ x ∧ 0 ≤ y ∧ 0 ≤ c ∧ c ≤ 1 then
      some (.d (.tup [.int .u64 ((x + y + c) % 18446744073709551616), .int .u64 ((x + y + c) / 18446744073709551616)])) else none
  | _ => none
theorem RVL_three {w : World} {F : Nat → Prop} {Γ : List Slot} {a b c : AV} {vs : Array Value} (h : RVL w F Γ [a, b, c] vs) : ∃ x y z, vs = #[x, y, z] ∧ RV w F Γ a x ∧ RV w F Γ b y ∧ RV w F Γ c z := by
  obtain ⟨l⟩ := vs
  obtain ⟨h1, h2⟩ := h
  match l with
  | [] => simp at h1
  | [_] => simp at h1
  | [_, _] => simp at h1
  | [x, y, z] => exact ⟨x, y, z, rfl, by simpa using h2 0 a rfl, by simpa using h2 1 b rfl, by simpa using h2 2 c rfl⟩
  | _ :: _ :: _ :: _ :: _ => simp at h1
theorem add64_ok {P : Program} {g : FuncId} {fn : Func} (hf : P.funcs[g]? = some fn) (hnm : (fn.name == "runtime.NumGoroutine") = false) (hb : fn.body.isNone = true) (hn : Extern.findNext fn = none)
    (he : Extern.find fn = some add64Entry) : ExtOk P g add64A := ⟨by
  intro as v h w F Γ vs hV
  unfold add64A at h
  split at h
  · rename_i x y c
    split at h
    · rename_i hc
      obtain rfl := Option.some.inj h
      obtain ⟨x', y', z', rfl, h1, h2, h3⟩ := RVL_three hV
      rw [RD_int h1.of_d, RD_int h2.of_d, RD_int h3.of_d]
      have := run_add64 (P := P) x y c hc.1 hc.2.1 hc.2.2.1 hc.2.2.2 w
      refine ⟨.tuple #[.int .u64 ((x + y + c) % 18446744073709551616), .int .u64 ((x + y + c) / 18446744073709551616)], by rw [run_callFunc_extern hf hnm hb hn he, this]; rfl, .d (.tup _ _ rfl fun j d hj => ?_)⟩
      match j with
      | 0 => simp at hj; subst hj; exact .int _ _
      | 1 => simp at hj; subst hj; exact .int _ _
      | j + 2 => simp at hj
    · simp at h
  · simp at h⟩
end Go.Abs
