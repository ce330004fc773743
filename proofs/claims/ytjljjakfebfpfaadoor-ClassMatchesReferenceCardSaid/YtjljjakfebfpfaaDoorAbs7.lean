/-
  From operations to code: what a function's body comes to, over descriptions ('awp'), and that the machine's run comes to a state so described.
-/
import Derived.Test.YtjljjakfebfpfaaDoorAbsR
import Derived.OrdersIn
import Derived.TacticsIn
set_option autoImplicit false
set_option linter.unusedVariables false
set_option linter.unusedSimpArgs false
namespace Go.Abs

abbrev K3 := List AV → List AObj → List Nat → Prop

/-- The marks among a frame's deferred calls. -/
def DR (Γ : List Slot) (ds : List Nat) (df : List Deferred) : Prop :=
  df.length = ds.length ∧ ∀ (i id : Nat), ds[i]? = some id → ∃ (s : Slot) (b : Nat), Γ[id]? = some s ∧ s.b = some b ∧ df[i]? = some ({ target := .collected b, args := #[] } : Deferred)

/-- The same state, told in another way. -/
def Wk (E : Env) (n0 : Nat) (t : List AV) (H : List AObj) (ds : List Nat) (t' : List AV) (H' : List AObj) (ds' : List Nat) : Prop :=
  ∀ w F Γ tm df, SR E w F Γ H → RT w F Γ t tm → DR Γ ds df → n0 ≤ Γ.length → ∃ F' Γ', SR E w F' Γ' H' ∧ RT w F' Γ' t' tm ∧ DR Γ' ds' df ∧ Ext n0 w F Γ H w F' Γ' H'
def WK (E : Env) (n0 : Nat) (K : K3) (t : List AV) (H : List AObj) (ds : List Nat) : Prop := ∃ t' H' ds', Wk E n0 t H ds t' H' ds' ∧ K t' H' ds'
theorem Wk.refl (E : Env) (n0 : Nat) (t : List AV) (H : List AObj) (ds : List Nat) : Wk E n0 t H ds t H ds := fun w F Γ tm df hS hT hD hn => ⟨F, Γ, hS, hT, hD, Ext.refl hn⟩
theorem WK.here {E : Env} {n0 : Nat} {K : K3} {t : List AV} {H : List AObj} {ds : List Nat} (h : K t H ds) : WK E n0 K t H ds := ⟨t, H, ds, Wk.refl E n0 t H ds, h⟩
theorem Wk.trans {E : Env} {n0 : Nat} {t t' t'' : List AV} {H H' H'' : List AObj} {ds ds' ds'' : List Nat} (h : Wk E n0 t H ds t' H' ds') (k : Wk E n0 t' H' ds' t'' H'' ds'') : Wk E n0 t H ds t'' H'' ds'' :=
  fun w F Γ tm df hS hT hD hn => by
    obtain ⟨F1, Γ1, h1, h2, h3, h4⟩ := h w F Γ tm df hS hT hD hn
    obtain ⟨F2, Γ2, k1, k2, k3, k4⟩ := k w F1 Γ1 tm df h1 h2 h3 h4.nlen
    exact ⟨F2, Γ2, k1, k2, k3, h4.trans (Nat.le_refl _) k4⟩
theorem WK.step {E : Env} {n0 : Nat} {K : K3} {t t' : List AV} {H H' : List AObj} {ds ds' : List Nat} (h : Wk E n0 t H ds t' H' ds') (k : WK E n0 K t' H' ds') : WK E n0 K t H ds := by
  obtain ⟨t'', H'', ds'', k1, k2⟩ := k
  exact ⟨t'', H'', ds'', h.trans k1, k2⟩

/-- A function is entered when it is called. -/
def Enters (P : Program) (g : FuncId) : Prop := ∀ args w, (callFunc g args).run P w = .ok (.enter g args) w

/-- What a call comes to. -/
def ACalls (E : Env) (g : FuncId) (args : List AV) (H : List AObj) (K : AV → List AObj → Prop) : Prop :=
  Enters E.P g ∧ ∀ w F Γ vs, SR E w F Γ H → RVL w F Γ args vs → Calls E.P g vs w fun e w' =>
    ∃ v r H' F' Γ', e = .returned v ∧ SR E w' F' Γ' H' ∧ RV w' F' Γ' r v ∧ K r H' ∧ Ext H.length w F Γ H w' F' Γ' H'
@[congr] theorem ACalls_congr {E : Env} {g : FuncId} {args args' : List AV} {H H' : List AObj} {K : AV → List AObj → Prop} (h1 : args = args') (h2 : H = H') : ACalls E g args H K = ACalls E g args' H' K := by rw [h1, h2]
theorem ACalls.mono {E : Env} {g : FuncId} {args : List AV} {H : List AObj} {K K' : AV → List AObj → Prop} (h : ACalls E g args H K) (hK : ∀ r H', K r H' → K' r H') : ACalls E g args H K' :=
  ⟨h.1, fun w F Γ vs hS hV => (h.2 w F Γ vs hS hV).mono fun e w' ⟨v, r, H', F', Γ', h1, h2, h3, h4, h5⟩ => ⟨v, r, H', F', Γ', h1, h2, h3, hK _ _ h4, h5⟩⟩

def putT (t : List AV) : Option Tmp → AV → List AV
  | some d, v => t.set d v
  | none, _ => t
def gval (ops : List Oper) (t : List AV) (j : Nat) : Option (Tmp × AV) := match ops[j]? with
  | some o => match o.dst with
    | some d => some (d, t.getD d .dead)
    | none => none
  | none => none

/-- What a skipped operation leaves. -/
abbrev udf : AV := .d (.tup [])
theorem udf_ok {w : World} {F : Nat → Prop} {Γ : List Slot} : RV w F Γ udf undef := .d (.tup [] #[] rfl fun j d h => by simp at h)
theorem RD_udf {w : World} {F : Nat → Prop} {v : Value} (h : RD w F (.tup []) v) : v = .tuple #[] := by
  cases h with
  | tup _ vs hs _ => simp at hs; rw [hs]
def acallF (E : Env) (g : FuncId) (args : List AV) (H : List AObj) (K KW : AV → List AObj → Prop) : Prop := match E.ext g with
  | some f => (match f args with
    | some v => K v H
    | none => False)
  | none => ACalls E g args H KW
def acall (E : Env) (c : Call) (ρ : Operand → AV) (H : List AObj) (K KW : AV → List AObj → Prop) : Prop := match c.callee with
  | .builtin .append => (match c.args.toList, c.argTypes.toList with
    | [s, x], [T, T'] => aapp E T T' H (ρ s) (ρ x) K
    | _, _ => False)
  | .builtin .delete => (match c.args.toList, c.argTypes.toList with
    | [m, k], [T, _] => adel E T H (ρ m) (ρ k) (fun H' => K (.d (.tup [])) H')
    | _, _ => False)
  | .builtin .clear => (match c.args.toList, c.argTypes.toList with
    | [m], [T] => aclear E T H (ρ m) (fun H' => K (.d (.tup [])) H')
    | _, _ => False)
  | .value f => (match ρ f with
    | .d (.func g caps) => acallF E g (c.args.toList.map ρ ++ caps.map .d) H K KW
    | .func g caps => acallF E g (c.args.toList.map ρ ++ caps) H K KW
    | .yield id => AYield E id (c.args.toList.map ρ) H KW
    | _ => False)
  | .builtin _ => apureCall E c ρ H (fun v => K v H)
  | .invoke _ _ => False
def aop (E : Env) (o : Op) (ρ : Operand → AV) (H : List AObj) (K KW : AV → List AObj → Prop) : Prop := match o with
  | .alloc T => aalloc E T H K
  | .box _ x => abox H (ρ x) K
  | .store T a x => astore E T H (ρ a) (ρ x) (fun H' => K .dead H')
  | .buildSlice T n ps => abuildS E T n (ps.toList.map fun (i, x) => (i, ρ x)) (fun v => K v H)
  | .makeSlice T l c => amake E T H (ρ l) (ρ c) K
  | .makeMap T r => amkmap E T (r.map ρ) H K
  | .mapUpdate T m k x => amapup E T H (ρ m) (ρ k) (ρ x) (fun H' => K .dead H')
  | .insert T m k x => amapup E T H (ρ m) (ρ k) (ρ x) (fun H' => K .dead H')
  | .range T x => arange E T H (ρ x) K
  | .next it str => anext E str H (ρ it) K
  | .entry it => aentry H (ρ it) (fun v => K v H)
  | .call c => acall E c ρ H K KW
  | .binOp op T x y _ => aopBin E op T (isC x || isC y) (ρ x) (ρ y) (fun v => K v H)
  | o => apure E o ρ H (fun v => K v H)

def areg (E : Env) (n0 : Nat) (ops : List Oper) : List Oper → K3 → K3
  | [], K, t, H, ds => K t H ds
  | o :: r, K, t, H, ds => match o.guard with
    | none => aop E o.op (ev E t) H (fun v H' => areg E n0 ops r K (putT t o.dst v) H' ds) (fun v H' => WK E n0 (areg E n0 ops r K) (putT t o.dst v) H' ds)
    | some (j, want) => match gval ops t j with
      | some (d, .d (.bool b)) => Br (b == want)
          (aop E o.op (ev E (t.set d (.d (.bool want)))) H (fun v H' => areg E n0 ops r K (putT (t.set d (.d (.bool want))) o.dst v) H' ds) (fun v H' => WK E n0 (areg E n0 ops r K) (putT (t.set d (.d (.bool want))) o.dst v) H' ds))
          (areg E n0 ops r K (putT (t.set d (.d (.bool (!want)))) o.dst udf) H ds)
      | some (_, .d (.tup [])) => areg E n0 ops r K (putT t o.dst udf) H ds
      | _ => False

/-! ### The frame -/
def Wr (ro : Option Nat) : Fence := { Fence.wide with round := ro }
theorem Wr_fn (ro : Option Nat) (f : FuncId) : (Wr ro).fn f := trivial
theorem Wr_calls {ro : Option Nat} {n : Nat} {P : Program} {f : FuncId} {args : Array Value} {w : World} {R : Ending → World → Prop} (h : Calls P f args w R) : CallsIn (Wr ro) n P f args w R :=
  callsIn_wide.2 h

theorem Wr_rounds {ro : Option Nat} {n : Nat} {P : Program} {b : Nat} {fn : FuncId} {tmps : Array Value} {assign body : Code} {w : World} {R : Ending → World → Prop} (h : Rounds P b fn tmps assign body w R) :
    RoundIn (Wr ro) n P b fn tmps assign body w R := ⟨trivial, fun c cs _ => h.2 c cs (room_wide _)⟩

/-- A state of the frame and of the world, as described. -/
structure Rel (E : Env) (w : World) (F : Nat → Prop) (Γ : List Slot) (t : List AV) (H : List AObj) (ds : List Nat) (a : Act) : Prop where
  sr : SR E w F Γ H
  rt : RT w F Γ t a.tmps
  dr : DR Γ ds a.defers

/-- A state that lies later than a given one, and of which K tells. -/
def Lat (E : Env) (n0 : Nat) (w : World) (F : Nat → Prop) (Γ : List Slot) (H : List AObj) (K : K3) (a : Act) (w' : World) : Prop :=
  ∃ F' Γ' t' H' ds', Rel E w' F' Γ' t' H' ds' a ∧ Ext n0 w F Γ H w' F' Γ' H' ∧ K t' H' ds'

section
variable {E : Env} {w w' : World} {F F' : Nat → Prop} {Γ Γ' : List Slot} {H H' : List AObj} {n0 : Nat}

theorem DR.mono {ds : List Nat} {df : List Deferred} (h : DR Γ ds df) (hΓ : ∀ (id : Nat) s, Γ[id]? = some s → Γ'[id]? = some s) : DR Γ' ds df :=
  ⟨h.1, fun i id hi => by obtain ⟨s, b, h1, h2, h3⟩ := h.2 i id hi; exact ⟨s, b, hΓ _ _ h1, h2, h3⟩⟩

theorem putT_ok {t : List AV} {a : Act} (h : RT w F Γ t a.tmps) (dst : Option Tmp) {av : AV} {v : Value} (hv : RV w F Γ av v) : RT w F Γ (putT t dst av) (a.put dst v).tmps := by
  cases dst with
  | none => exact h
  | some d => exact h.set d hv
theorem put_defers (a : Act) (dst : Option Tmp) (v : Value) : (a.put dst v).defers = a.defers := by cases dst <;> rfl

theorem semAt_pure {ro : Option Nat} {η : Operand → Value} {o : Oper} {x : Sem Next} (h : ∀ c, o.op ≠ .defer c) : o.semAt ro η = execOp η o := Oper.semAt_eq ro η o h

/-- One operation. -/
def OpOut (E : Env) (n0 : Nat) (w : World) (F : Nat → Prop) (Γ : List Slot) (H : List AObj) (o : Oper) (η : Operand → Value) (K KW : AV → List AObj → Prop) : Prop :=
  (∃ v w', (execOp η o).run E.P w = .ok (.value v) w' ∧ Out E n0 w F Γ H v w' K) ∨
  (∃ w', (execOp η o).run E.P w = .ok .skip w' ∧ Out E n0 w F Γ H undef w' K) ∨
  (∃ g vs, (execOp η o).run E.P w = .ok (.enter g vs) w ∧ Calls E.P g vs w fun e w' => ∃ v r H' F' Γ', e = .returned v ∧ SR E w' F' Γ' H' ∧ RV w' F' Γ' r v ∧ KW r H' ∧ Ext H.length w F Γ H w' F' Γ' H') ∨
  (∃ b fn tmps assign body, (execOp η o).run E.P w = .ok (.round b fn tmps assign body) w ∧ Rounds E.P b fn tmps assign body w fun e w' => ∃ v r H' F' Γ', e = .returned v ∧ SR E w' F' Γ' H' ∧ RV w' F' Γ' r v ∧ KW r H' ∧ Ext H.length w F Γ H w' F' Γ' H')

theorem out_value (hS : SR E w F Γ H) (hn : n0 ≤ Γ.length) {av : AV} {v : Value} (hv : RV w F Γ av v) {K : AV → List AObj → Prop} (hK : K av H) : Out E n0 w F Γ H v w K :=
  ⟨F, Γ, H, av, hS, hv, hK, Ext.refl hn, fun _ _ h => h⟩

theorem RVL_map {η : Operand → Value} {ρ : Operand → AV} (hη : ∀ x, RV w F Γ (ρ x) (η x)) (l : Array Operand) {caps : List AV} {cv : Array Value} (hc : RVL w F Γ caps cv) :
    RVL w F Γ (l.toList.map ρ ++ caps) (l.map η ++ cv) := by
  refine ⟨by simp [hc.1], fun j av hj => ?_⟩
  rw [List.getElem?_append] at hj
  rw [Array.getD_eq_getD_getElem?, Array.getElem?_append]
  simp only [List.length_map, Array.length_toList] at hj
  simp only [Array.size_map]
  split at hj
  · rename_i hlt
    rw [if_pos hlt, Array.getElem?_map]
    rw [List.getElem?_map, Array.getElem?_toList] at hj
    cases hx : l[j]? with
    | none => simp [hx] at hj
    | some x => simp [hx] at hj; subst hj; exact hη x
  · rename_i hge
    rw [if_neg hge, ← Array.getD_eq_getD_getElem?]
    exact hc.2 _ _ hj

theorem acallF_ok (hE : EnvOk E) (hS : SR E w F Γ H) (hn : n0 ≤ Γ.length) {g : FuncId} {args : List AV} {K KW : AV → List AObj → Prop} (h : acallF E g args H K KW) {vs : Array Value} (hV : RVL w F Γ args vs) :
    (∃ v, (callFunc g vs).run E.P w = .ok (.value v) w ∧ Out E n0 w F Γ H v w K) ∨
    ((callFunc g vs).run E.P w = .ok (.enter g vs) w ∧ Calls E.P g vs w fun e w' => ∃ v r H' F' Γ', e = .returned v ∧ SR E w' F' Γ' H' ∧ RV w' F' Γ' r v ∧ KW r H' ∧ Ext H.length w F Γ H w' F' Γ' H') := by
  unfold acallF at h
  split at h
  · rename_i f hf
    split at h <;> try exact h.elim
    rename_i v hv
    obtain ⟨u, h1, h2⟩ := hE.ext g f hf args v hv w F Γ vs hV
    exact .inl ⟨u, h1, out_value hS hn h2 h⟩
  · exact .inr ⟨h.1 vs w, h.2 w F Γ vs hS hV⟩

theorem acall_ok (hE : EnvOk E) (hS : SR E w F Γ H) (hn : n0 ≤ Γ.length) {o : Oper} {c : Call} (ho : o.op = .call c) {ρ : Operand → AV} {K KW : AV → List AObj → Prop} (h : acall E c ρ H K KW) {η : Operand → Value}
    (hη : ∀ x, RV w F Γ (ρ x) (η x)) : OpOut E n0 w F Γ H o η K KW := by
  have viaPure : apureCall E c ρ H (fun v => K v H) → OpOut E n0 w F Γ H o η K KW := fun h => by
    obtain ⟨v, av, h1, h2, h3⟩ := apure_ok (o := o) hE hS (ρ := ρ) (K := fun v => K v H) (by rw [ho]; exact h) hη
    exact .inl ⟨v, w, h1, out_value hS hn h3 h2⟩
  obtain ⟨dst, op, ty, pos, after, guard⟩ := o
  simp only at ho
  subst ho
  obtain ⟨callee, args, argTypes⟩ := c
  unfold acall at h
  simp only at h
  split at h
  · split at h <;> try exact h.elim
    rename_i s x T T' hxs hTs
    have e1 : args = #[s, x] := by apply Array.toList_inj.1; rw [hxs]
    have e2 : argTypes = #[T, T'] := by apply Array.toList_inj.1; rw [hTs]
    subst e1 e2
    obtain ⟨v, w', hr, hout⟩ := aapp_ok (ty := ty) hE hS hn h (hη s) (hη x)
    refine .inl ⟨v, w', ?_, hout⟩
    simp only [execOp, resolve, pure_bind, invoke, builtin]
    simp [hr]
  · split at h <;> try exact h.elim
    rename_i m k T T' hxs hTs
    have e1 : args = #[m, k] := by apply Array.toList_inj.1; rw [hxs]
    have e2 : argTypes = #[T, T'] := by apply Array.toList_inj.1; rw [hTs]
    subst e1 e2
    obtain ⟨w', hr, F', Γ', H', av, g1, g2, ⟨rfl, g3⟩, g4⟩ := adel_ok (T' := T') (ty := ty) hE hS hn h (hη m) (hη k)
    refine .inl ⟨.tuple #[], w', ?_, F', Γ', H', _, g1, g2, g3, g4⟩
    simp only [execOp, resolve, pure_bind, invoke, builtin]
    simp [hr]
  · split at h <;> try exact h.elim
    rename_i m T hxs hTs
    have e1 : args = #[m] := by apply Array.toList_inj.1; rw [hxs]
    have e2 : argTypes = #[T] := by apply Array.toList_inj.1; rw [hTs]
    subst e1 e2
    obtain ⟨w', hr, F', Γ', H', av, g1, g2, ⟨rfl, g3⟩, g4⟩ := aclear_ok (ty := ty) hE hS hn h (hη m)
    refine .inl ⟨.tuple #[], w', ?_, F', Γ', H', _, g1, g2, g3, g4⟩
    simp only [execOp, resolve, pure_bind, invoke, builtin]
    simp [hr]
  · rename_i f
    have hf := hη f
    split at h
    · rename_i g caps hρ
      rw [hρ] at hf
      generalize hv : η f = fv at hf
      have hd := hf.of_d
      cases hd with
      | func g caps cv hs hr =>
        have hV := RVL_map hη args (caps := caps.map .d) (cv := cv) ⟨by simpa using hs, fun j av hj => by
          rw [List.getElem?_map] at hj
          cases hx : caps[j]? with
          | none => simp [hx] at hj
          | some x => simp [hx] at hj; subst hj; exact .d (hr j x hx)⟩
        have e : execOp η ⟨dst, .call ⟨.value f, args, argTypes⟩, ty, pos, after, guard⟩ = callFunc g (args.map η ++ cv) := by
          simp [execOp, resolve, hv, Deferred.ofValue, invoke]
        unfold OpOut
        rw [e]
        rcases acallF_ok hE hS hn h hV with ⟨v, h1, h2⟩ | ⟨h1, h2⟩
        · exact .inl ⟨v, w, h1, h2⟩
        · exact .inr (.inr (.inl ⟨g, _, h1, h2⟩))
    · rename_i g caps hρ
      rw [hρ] at hf
      generalize hv : η f = fv at hf
      cases hf with
      | func g caps cv hs hr =>
        have hV := RVL_map hη args (caps := caps) (cv := cv) ⟨hs, hr⟩
        have e : execOp η ⟨dst, .call ⟨.value f, args, argTypes⟩, ty, pos, after, guard⟩ = callFunc g (args.map η ++ cv) := by
          simp [execOp, resolve, hv, Deferred.ofValue, invoke]
        unfold OpOut
        rw [e]
        rcases acallF_ok hE hS hn h hV with ⟨v, h1, h2⟩ | ⟨h1, h2⟩
        · exact .inl ⟨v, w, h1, h2⟩
        · exact .inr (.inr (.inl ⟨g, _, h1, h2⟩))
    · rename_i id hρ
      rw [hρ] at hf
      generalize hv : η f = fv at hf
      cases hf with
      | yield hs hb =>
        rename_i s0 b0
        have hV := RVL_map hη args (caps := []) (cv := #[]) ⟨rfl, fun j d hj => by simp at hj⟩
        simp only [List.append_nil, Array.append_empty] at hV
        obtain ⟨fn, tmps, assign, body, h1, h2⟩ := h w F Γ (args.map η) _ _ hS hV hs hb
        refine .inr (.inr (.inr ⟨_, fn, tmps, assign, body, ?_, h2⟩))
        have e : execOp η ⟨dst, .call ⟨.value f, args, argTypes⟩, ty, pos, after, guard⟩ = Instr.yield b0 (args.map η) := by
          simp [execOp, resolve, hv, Deferred.ofValue, invoke]
        rw [e]; exact h1
    · exact h.elim
  · exact viaPure h
  · exact h.elim

theorem aop_ok (hE : EnvOk E) (hS : SR E w F Γ H) (hn : n0 ≤ Γ.length) {o : Oper} {ρ : Operand → AV} {K KW : AV → List AObj → Prop} (h : aop E o.op ρ H K KW) {η : Operand → Value}
    (hη : ∀ x, RV w F Γ (ρ x) (η x)) : OpOut E n0 w F Γ H o η K KW := by
  have viaPure : apure E o.op ρ H (fun v => K v H) → OpOut E n0 w F Γ H o η K KW := fun h => by
    obtain ⟨v, av, h1, h2, h3⟩ := apure_ok (o := o) hE hS h hη
    exact .inl ⟨v, w, h1, out_value hS hn h3 h2⟩
  have val : ∀ (m : Sem Value), execOp η o = (do pure (.value (← m))) → (∃ v w', m.run E.P w = .ok v w' ∧ Out E n0 w F Γ H v w' K) → OpOut E n0 w F Γ H o η K KW := by
    rintro m e ⟨v, w', h1, h2⟩
    exact .inl ⟨v, w', by rw [e]; simp [h1], h2⟩
  unfold aop at h
  split at h
  · rename_i T ho
    exact val _ (by simp only [execOp, ho]) (aalloc_ok hE hS hn h)
  · rename_i T x ho
    exact val _ (by simp only [execOp, ho]) (abox_ok hS hn h (hη x) T)
  · rename_i T a x ho
    obtain ⟨w', h1, h2⟩ := astore_ok hE hS hn h (hη a) (hη x)
    refine .inr (.inl ⟨w', ?_, ?_⟩)
    · simp only [execOp, ho]
      simp [h1]
    · obtain ⟨F', Γ', H', av, g1, g2, g3, g4⟩ := h2
      exact ⟨F', Γ', H', .dead, g1, .dead _, g3, g4⟩
  · rename_i T n ps ho
    refine val (Instr.buildSlice T n (ps.map fun (i, x) => (i, η x))) (by simp only [execOp, ho]) ?_
    obtain ⟨v, w', h1, F', Γ', H', av, g1, g2, ⟨g3, rfl⟩, g4⟩ := abuildS_ok (qs := ps.map fun (i, x) => (i, η x)) hE hS hn h (by simpa using PV_map hη ps.toList)
    exact ⟨v, w', h1, F', Γ', H', av, g1, g2, g3, g4⟩
  · rename_i T l c ho
    exact val _ (by simp only [execOp, ho]) (amake_ok hE hS hn h (hη l) (hη c))
  · rename_i T r ho
    exact val _ (by simp only [execOp, ho]) (amkmap_ok hE hS hn h (OV_map hη r))
  · rename_i T m k x ho
    obtain ⟨w', h1, h2⟩ := amapup_ok hE hS hn h (hη m) (hη k) (hη x)
    refine .inr (.inl ⟨w', ?_, ?_⟩)
    · simp only [execOp, ho]
      simp [h1]
    · obtain ⟨F', Γ', H', av, g1, g2, g3, g4⟩ := h2
      exact ⟨F', Γ', H', .dead, g1, .dead _, g3, g4⟩
  · rename_i T m k x ho
    obtain ⟨w', h1, h2⟩ := amapup_ok hE hS hn h (hη m) (hη k) (hη x)
    refine .inr (.inl ⟨w', ?_, ?_⟩)
    · simp only [execOp, ho]
      simp [h1]
    · obtain ⟨F', Γ', H', av, g1, g2, g3, g4⟩ := h2
      exact ⟨F', Γ', H', .dead, g1, .dead _, g3, g4⟩
  · rename_i T x ho
    exact val _ (by simp only [execOp, ho]) (arange_ok hE hS hn h (hη x))
  · rename_i it str ho
    exact val _ (by simp only [execOp, ho]) (anext_ok hE hS hn h (hη it) o.type)
  · rename_i it ho
    obtain ⟨u, av, h1, h2, h3⟩ := aentry_ok hE hS h (hη it)
    exact val _ (by simp only [execOp, ho]) ⟨u, w, h1, out_value hS hn h3 h2⟩
  · rename_i c ho
    exact acall_ok hE hS hn ho h hη
  · rename_i op T x y yT ho
    obtain ⟨v, av, h1, h2, h3⟩ := aopBin_ok (w := w) (F := F) (Γ := Γ) hE h (hη x) (hη y)
    exact val _ (by simp only [execOp, ho]) ⟨v, w, h1, out_value hS hn h3 h2⟩
  · exact viaPure h

theorem noDefer {o : Oper} {ρ : Operand → AV} {K KW : AV → List AObj → Prop} (h : aop E o.op ρ H K KW) : ∀ c, o.op ≠ .defer c := fun c e => by
  rw [e] at h
  exact h

/-- A region, in the order of its text. -/
theorem areg_ok (hE : EnvOk E) {ro : Option Nat} {n : Nat} (ops : List Oper) (K : K3) : ∀ (l : List Oper) (t : List AV) (H : List AObj) (ds : List Nat), areg E n0 ops l K t H ds →
    ∀ (w : World) (F : Nat → Prop) (Γ : List Slot) (a : Act), Rel E w F Γ t H ds a → n0 ≤ Γ.length → ∀ (Q : Exit → Act → World → Prop), (∀ a' w', Lat E n0 w F Γ H K a' w' → Q .normal a' w') →
    wpListIn (Wr ro) n E.P ops.toArray Q l a w
  | [], t, H, ds, h, w, F, Γ, a, hR, hn, Q, hQ => hQ a w ⟨F, Γ, t, H, ds, hR, Ext.refl hn, h⟩
  | o :: r, t, H, ds, h, w, F, Γ, a, hR, hn, Q, hQ => by
    -- what stands behind the operation, in whatever later state
    have next : ∀ (t1 : List AV) (w1 : World) (F1 : Nat → Prop) (Γ1 : List Slot) (H1 : List AObj) (a1 : Act) (ds1 : List Nat), Rel E w1 F1 Γ1 t1 H1 ds1 a1 → Ext n0 w F Γ H w1 F1 Γ1 H1 → areg E n0 ops r K t1 H1 ds1 →
        wpListIn (Wr ro) n E.P ops.toArray Q r a1 w1 := fun t1 w1 F1 Γ1 H1 a1 ds1 hR1 hX hA =>
      areg_ok hE ops K r t1 H1 ds1 hA w1 F1 Γ1 a1 hR1 hX.nlen Q fun a' w' ⟨F2, Γ2, t2, H2, ds2, hR2, hX2, hK⟩ => hQ a' w' ⟨F2, Γ2, t2, H2, ds2, hR2, hX.trans (Nat.le_refl _) hX2, hK⟩
    have run1 : ∀ (t1 : List AV), RT w F Γ t1 a.tmps → aop E o.op (ev E t1) H (fun v H' => areg E n0 ops r K (putT t1 o.dst v) H' ds) (fun v H' => WK E n0 (areg E n0 ops r K) (putT t1 o.dst v) H' ds) →
        o.wpIn (Wr ro) n E.P a w (wpListIn (Wr ro) n E.P ops.toArray Q r) Q := fun t1 hT1 hop => by
      refine ⟨fun f _ => trivial, ?_⟩
      rw [Oper.semAt_eq _ _ _ (noDefer hop)]
      rcases aop_ok hE hR.sr hn hop (ev_ok hR.sr hT1) with ⟨v, w', hrun, F', Γ', H', av, hS', hv', hK', hX, hpre⟩ | ⟨w', hrun, F', Γ', H', av, hS', hv', hK', hX, hpre⟩ | ⟨g, vs, hrun, hcalls⟩ | ⟨b, fn, tmps, assign, body, hrun, hrounds⟩
      · rw [hrun]
        have hstay := hX.stay hR.sr
        exact next _ w' F' Γ' H' _ ds ⟨hS', putT_ok (hT1.mono hX.sub hstay hpre) o.dst hv', by rw [put_defers]; exact hR.dr.mono hpre⟩ hX hK'
      · rw [hrun]
        have hstay := hX.stay hR.sr
        exact next _ w' F' Γ' H' _ ds ⟨hS', putT_ok (hT1.mono hX.sub hstay hpre) o.dst hv', by rw [put_defers]; exact hR.dr.mono hpre⟩ hX hK'
      · rw [hrun]
        refine ⟨fun h => by simp [Wr, Fence.wide] at h, Wr_calls (hcalls.mono ?_)⟩
        rintro e w' ⟨v, r', H', F', Γ', rfl, hS', hv', ⟨t2, H2, ds2, hwk, hA⟩, hX⟩
        have hstay := hX.stay hR.sr
        have hpre : ∀ (id : Nat) s, Γ[id]? = some s → Γ'[id]? = some s := fun id s hs => by
          rw [hX.pre id (by rw [← hR.sr.len]; exact (List.getElem?_eq_some_iff.1 hs).1)]; exact hs
        have hX0 : Ext n0 w F Γ H w' F' Γ' H' := { hX with pre := fun id hid => hX.pre id (by rw [← hR.sr.len]; omega), nlen := Nat.le_trans (by rw [← hR.sr.len]; exact hn) hX.nlen }
        obtain ⟨F2, Γ2, k1, k2, k3, k4⟩ := hwk w' F' Γ' (a.put o.dst v).tmps (a.put o.dst v).defers hS' (putT_ok (hT1.mono hX.sub hstay hpre) o.dst hv') (by rw [put_defers]; exact hR.dr.mono hpre) hX0.nlen
        exact next t2 w' F2 Γ2 H2 _ ds2 ⟨k1, k2, k3⟩ (hX0.trans (Nat.le_refl _) k4) hA
      · rw [hrun]
        refine ⟨fun h => by simp [Wr, Fence.wide] at h, Wr_rounds (RoundIn.mono hrounds ?_)⟩
        rintro e w' ⟨v, r', H', F', Γ', rfl, hS', hv', ⟨t2, H2, ds2, hwk, hA⟩, hX⟩
        have hstay := hX.stay hR.sr
        have hpre : ∀ (id : Nat) s, Γ[id]? = some s → Γ'[id]? = some s := fun id s hs => by
          rw [hX.pre id (by rw [← hR.sr.len]; exact (List.getElem?_eq_some_iff.1 hs).1)]; exact hs
        have hX0 : Ext n0 w F Γ H w' F' Γ' H' := { hX with pre := fun id hid => hX.pre id (by rw [← hR.sr.len]; omega), nlen := Nat.le_trans (by rw [← hR.sr.len]; exact hn) hX.nlen }
        obtain ⟨F2, Γ2, k1, k2, k3, k4⟩ := hwk w' F' Γ' (a.put o.dst v).tmps (a.put o.dst v).defers hS' (putT_ok (hT1.mono hX.sub hstay hpre) o.dst hv') (by rw [put_defers]; exact hR.dr.mono hpre) hX0.nlen
        exact next t2 w' F2 Γ2 H2 _ ds2 ⟨k1, k2, k3⟩ (hX0.trans (Nat.le_refl _) k4) hA
    simp only [areg] at h
    unfold wpListIn
    cases hg : o.guard with
    | none =>
      rw [hg] at h
      rw [if_pos (by simp [Region.wanted, hg])]
      exact run1 t hR.rt h
    | some gw =>
      obtain ⟨j, want⟩ := gw
      rw [hg] at h
      simp only at h
      split at h <;> try exact h.elim
      rotate_left
      · rename_i d hgv
        have hy : yielded ops.toArray a.tmps j = none := by
          unfold gval at hgv
          cases hoj : ops[j]? with
          | none => simp [hoj] at hgv
          | some oj =>
            cases hdj : oj.dst with
            | none => simp [hoj, hdj] at hgv
            | some d' =>
              simp [hoj, hdj] at hgv
              obtain ⟨rfl, hav⟩ := hgv
              have hlt : d' < t.length := by
                rcases Nat.lt_or_ge d' t.length with h | h
                · exact h
                · simp [List.getElem?_eq_none h] at hav
              have hget : t[d']? = some (.d (.tup [])) := by
                rw [List.getElem?_eq_getElem hlt] at hav ⊢
                simpa using hav
              have hbv := RD_udf (hR.rt.2 d' _ hget).of_d
              have hsz : d' < a.tmps.size := by rw [hR.rt.1]; exact hlt
              unfold yielded
              have : a.tmps[d']? = some (.tuple #[]) := by
                rw [getD_of hsz, hbv]
              simp [hoj, hdj, this]
        rw [if_neg (by simp [Region.wanted, hg, hy])]
        refine ⟨fun f _ => trivial, ?_⟩
        exact next _ w F Γ H _ ds ⟨hR.sr, putT_ok hR.rt o.dst udf_ok, by rw [put_defers]; exact hR.dr⟩ (Ext.refl hn) h
      rename_i d b hgv
      -- the guard's value
      have hval : yielded ops.toArray a.tmps j = some b ∧ RV w F Γ (.d (.bool b)) (.bool b) ∧ t.getD d .dead = .d (.bool b) := by
        unfold gval at hgv
        cases hoj : ops[j]? with
        | none => simp [hoj] at hgv
        | some oj =>
          cases hdj : oj.dst with
          | none => simp [hoj, hdj] at hgv
          | some d' =>
            simp [hoj, hdj] at hgv
            obtain ⟨rfl, hav⟩ := hgv
            have hlt : d' < t.length := by
              rcases Nat.lt_or_ge d' t.length with h | h
              · exact h
              · simp [List.getElem?_eq_none h] at hav
            have hget : t[d']? = some (.d (.bool b)) := by
              rw [List.getElem?_eq_getElem hlt] at hav ⊢
              simpa using hav
            have hrv := hR.rt.2 d' _ hget
            have hbv := RD_bool hrv.of_d
            have hsz : d' < a.tmps.size := by rw [hR.rt.1]; exact hlt
            refine ⟨?_, .d (.bool b), by simp [List.getD_eq_getElem?_getD, hget]⟩
            unfold yielded
            have : a.tmps[d']? = some (.bool b) := by
              rw [getD_of hsz, hbv]
            simp [hoj, hdj, this]
      obtain ⟨hy, hrvb, hgd⟩ := hval
      have hset : ∀ b', b' = b → RT w F Γ (t.set d (.d (.bool b'))) a.tmps := fun b' hb' => by
        subst hb'
        refine ⟨by simp [hR.rt.1], fun k av hk => ?_⟩
        rcases set_get hk with ⟨rfl, rfl, hlt⟩ | ⟨_, hk⟩
        · have hget : t[d]? = some (.d (.bool b')) := by
            rw [List.getD_eq_getElem?_getD, List.getElem?_eq_getElem hlt] at hgd
            rw [List.getElem?_eq_getElem hlt]
            simpa using hgd
          exact hR.rt.2 d _ hget
        · exact hR.rt.2 k av hk
      by_cases hbw : b = want
      · rw [if_pos (by simp [Region.wanted, hg, hy, hbw])]
        exact run1 _ (hset want hbw.symm) (h.1 (by simp [hbw]))
      · rw [if_neg (by simp [Region.wanted, hg, hy, hbw])]
        refine ⟨fun f _ => trivial, ?_⟩
        have hb' : (!want) = b := by cases b <;> cases want <;> simp_all
        exact next _ w F Γ H _ ds ⟨hR.sr, putT_ok (hset _ hb') o.dst udf_ok, by rw [put_defers]; exact hR.dr⟩ (Ext.refl hn) (h.2 (by simpa using hbw))
end
end Go.Abs
