/-
  Code: sequences, tests, blocks, loops, regions in an open order, loops over functions; a round's contract from its code.
-/
import Derived.Test.YtjljjakfebfpfaaDoorAbsD
set_option autoImplicit false
set_option linter.unusedVariables false
set_option linter.unusedSimpArgs false
namespace Go.Abs

/-! ### Code -/
abbrev Q3 := Exit → K3
def ALoop (E : Env) (n0 : Nat) (body : Q3 → K3) (Q : Q3) (t : List AV) (H : List AObj) (ds : List Nat) : Prop :=
  ∃ I : Nat → K3, (∃ k, WK E n0 (I k) t H ds) ∧ ∀ k t H ds, I k t H ds → body (fun e t' H' ds' => match e with
    | .normal => ∃ k', k' < k ∧ WK E n0 (I k') t' H' ds'
    | e => Q e t' H' ds') t H ds
/-- A region in an open order: one of two ways to walk it. -/
def DReg (E : Env) (n0 : Nat) (ops : Array Oper) (Q : Q3) (t : List AV) (H : List AObj) (ds : List Nat) : Prop :=
  (drawOK ops (qpre ops.toList).length = true ∧ adraw E ops.toList (qpre ops.toList) (areg E n0 ops.toList (qtail ops.toList) (Q .normal)) t H ds) ∨
  (draw2 ops = true ∧ adraw E ops.toList (opsAt ops (eL ops)) (fun tq H ds => atail E ops.toList (opsAt ops (eL ops)) t tq (opsAt ops (tL ops)) (Q .normal) tq H ds) t H ds)
/-- What comes behind a loop over a function, which has the number l. -/
def Krng (E : Env) (n0 : Nat) (Q : Q3) (l : Nat) (t : List AV) (ds : List Nat) (H : List AObj) : Prop := ∃ fn t' ps a b st, H[l]? = some (.loop fn t' ps a b (some st)) ∧ (match st with
  | none => WK E n0 (Q .normal) t (H.set l .none) ds
  | some .ret => WK E n0 (Q .ret) t (H.set l .none) ds
  | some (.exit i) => WK E n0 (Q (.exit i)) t (H.set l .none) ds
  | _ => False)
def arng (E : Env) (n0 : Nat) (g : AV) (t : List AV) (H : List AObj) (ds : List Nat) (ps : List Tmp) (assign body : Code) (Q : Q3) (fn : FuncId) : Prop := match g with
  | .d (.func f caps) => ACalls E f (.yield (H.length + 1) :: caps.map .d) (H ++ [.defr, .loop fn t ps assign body (some none)]) (fun _ H' => Krng E n0 Q (H.length + 1) t (H.length :: ds) H')
  | .func f caps => ACalls E f (.yield (H.length + 1) :: caps) (H ++ [.defr, .loop fn t ps assign body (some none)]) (fun _ H' => Krng E n0 Q (H.length + 1) t (H.length :: ds) H')
  | _ => False
def ARng (E : Env) (n0 : Nat) (g : AV) (t : List AV) (H : List AObj) (ds : List Nat) (ps : List Tmp) (assign body : Code) (Q : Q3) : Prop := ∀ fn, arng E n0 g t H ds ps assign body Q fn
def awp (E : Env) (n0 : Nat) (rd : Bool) : Code → Q3 → K3
  | .skip, Q, t, H, ds => Q .normal t H ds
  | .region _ ops draw, Q, t, H, ds => match draw with
    | false => areg E n0 ops.toList ops.toList (Q .normal) t H ds
    | true => DReg E n0 ops Q t H ds
  | .seq a b, Q, t, H, ds => awp E n0 rd a (fun e t H ds => match e with
    | .normal => awp E n0 rd b Q t H ds
    | e => Q e t H ds) t H ds
  | .cond c a b, Q, t, H, ds => match ev E t c with
    | .d (.bool x) => Br x (awp E n0 rd a Q t H ds) (awp E n0 rd b Q t H ds)
    | _ => False
  | .block id a, Q, t, H, ds => awp E n0 rd a (fun e t H ds => match e with
    | .exit i => if i = id then Q .normal t H ds else Q (.exit i) t H ds
    | e => Q e t H ds) t H ds
  | .loop a, Q, t, H, ds => ALoop E n0 (awp E n0 rd a) Q t H ds
  | .exit id, Q, t, H, ds => Q (.exit id) t H ds
  | .ret, Q, t, H, ds => Q .ret t H ds
  | .rangeFunc g ps assign body, Q, t, H, ds => rd = false ∧ ARng E n0 (ev E t g) t H ds ps.toList assign body Q
  | _, _, _, _, _ => False

/-- The loop is laid. -/
theorem arng_lay {E : Env} {n0 : Nat} {ps : Array Tmp} {assign body : Code} {t : List AV} {H : List AObj} {ds : List Nat} {w : World} {F : Nat → Prop} {Γ : List Slot} {a : Act} (fn : FuncId) (hR : Rel E w F Γ t H ds a) (hn : n0 ≤ Γ.length) :
    ∃ (bl : Nat) (W : World) (F2 : Nat → Prop) (Γ2 : List Slot), (Instr.enterLoop fn a.tmps ps assign body none).run E.P w = .ok (bl, [{ target := .collected w.heap.size, args := #[] }]) W ∧
      SR E W F2 Γ2 (H ++ [.defr, .loop fn t ps.toList assign body (some none)]) ∧ RT W F2 Γ2 t a.tmps ∧ DR Γ2 (H.length :: ds) (({ target := .collected w.heap.size, args := #[] } : Deferred) :: a.defers) ∧
      RV W F2 Γ2 (.yield (H.length + 1)) (.func (.yield bl) #[] #[]) ∧ Ext n0 w F Γ H W F2 Γ2 (H ++ [.defr, .loop fn t ps.toList assign body (some none)]) := by
  have hnew1 : (w.alloc (.deferred (some []))).heap[w.heap.size]? = some (.deferred (some [])) := heap_new w _
  obtain ⟨F1, Γ1, H1, av1, s1, rv1, ⟨rfl, rfl⟩, x1, p1⟩ := out_new (n0 := n0) hR.sr hn (w1 := w) rfl rfl rfl rfl (ob := .deferred (some [])) (s := ⟨some w.heap.size, 0, 0, 0⟩) rfl (.inl rfl) (o := .defr) ⟨w.heap.size, rfl, hnew1⟩
    (av := .yield H.length) (v := .func (.yield w.heap.size) #[] #[]) (by rw [← hR.sr.len]; exact .yield (push_get Γ _) rfl) (K := fun v H' => v = .yield H.length ∧ H' = H ++ [.defr]) ⟨rfl, rfl⟩
  have hT1 : RT (w.alloc (.deferred (some []))) F1 Γ1 t a.tmps := hR.rt.mono x1.sub (x1.stay hR.sr) p1
  have hrun : (Instr.enterLoop fn a.tmps ps assign body none).run E.P w = .ok ((w.alloc (.deferred (some []))).heap.size, [{ target := .collected w.heap.size, args := #[] }])
      ((w.alloc (.deferred (some []))).alloc (.loop { state := .ready, pending := none, fn := fn, tmps := a.tmps, params := ps, assign := assign, body := body, defers := w.heap.size })) := rfl
  generalize w.alloc (.deferred (some [])) = w1 at *
  have hnew2 : (w1.alloc (.loop { state := .ready, pending := none, fn := fn, tmps := a.tmps, params := ps, assign := assign, body := body, defers := w.heap.size })).heap[w1.heap.size]? =
    some (.loop { state := .ready, pending := none, fn := fn, tmps := a.tmps, params := ps, assign := assign, body := body, defers := w.heap.size }) := heap_new w1 _
  have hold2 : ∀ b, F1 b → (w1.alloc (.loop { state := .ready, pending := none, fn := fn, tmps := a.tmps, params := ps, assign := assign, body := body, defers := w.heap.size })).heap[b]? = w1.heap[b]? :=
    fun b hb => Go.RowKit.Below.heap_alloc _ _ _ (s1.low b hb)
  obtain ⟨F2, Γ2, H2, av2, s2, rv2, ⟨rfl, rfl⟩, x2, p2⟩ := out_new (n0 := n0) s1 x1.nlen (w1 := w1) rfl rfl rfl rfl
    (ob := .loop { state := .ready, pending := none, fn := fn, tmps := a.tmps, params := ps, assign := assign, body := body, defers := w.heap.size }) (s := ⟨some w1.heap.size, 0, 0, 0⟩) rfl (.inl rfl) (o := .loop fn t ps.toList assign body (some none))
    ⟨w1.heap.size, _, rfl, hnew2, rfl, rfl, rfl, rfl, ⟨rfl, rfl⟩, hT1.1, fun j av hj => (hT1.2 j av hj).mono (fun _ h => h) hold2 (pre_push Γ1 ⟨some w1.heap.size, 0, 0, 0⟩)⟩
    (av := .yield (H.length + 1)) (v := .func (.yield w1.heap.size) #[] #[]) (by
      have e : H.length + 1 = Γ1.length := by rw [s1.len]; simp
      rw [e]; exact .yield (push_get Γ1 _) rfl) (K := fun v H' => v = .yield (H.length + 1) ∧ H' = (H ++ [.defr]) ++ [.loop fn t ps.toList assign body (some none)]) ⟨rfl, rfl⟩
  have hT2 := hT1.mono x2.sub (x2.stay s1) p2
  have x12 := x1.trans (Nat.le_refl _) x2
  have happ : (H ++ [AObj.defr]) ++ [.loop fn t ps.toList assign body (some none)] = H ++ [.defr, .loop fn t ps.toList assign body (some none)] := by simp
  rw [happ] at s2 x12
  refine ⟨_, _, F2, Γ2, hrun, s2, hT2, ?_, rv2, x12⟩
  have hD0 : DR Γ2 ds a.defers := hR.dr.mono fun id s hs => p2 id s (p1 id s hs)
  refine ⟨by simp [hD0.1], fun i id hi => ?_⟩
  cases i with
  | zero =>
    simp at hi
    subst hi
    cases rv1 with
    | yield hs hb => exact ⟨_, w.heap.size, p2 _ _ hs, hb, rfl⟩
  | succ i => simpa using hD0.2 i id (by simpa using hi)

/-- The loop is left. -/
theorem arng_end {E : Env} {n n0 : Nat} {Q : Q3} {t : List AV} {H H' : List AObj} {ds : List Nat} {w w' : World} {F F' : Nat → Prop} {Γ Γ' : List Slot} {tmps : Array Value} {df : List Deferred} {l bl : Nat}
    (hS' : SR E w' F' Γ' H') (hT' : RT w' F' Γ' t tmps) (hD' : DR Γ' ds df) (hv : RV w' F' Γ' (.yield l) (.func (.yield bl) #[] #[])) (hX0 : Ext n0 w F Γ H w' F' Γ' H') (hK : Krng E n0 Q l t ds H') (v : Value) :
    rangePost (Wr none) n E.P bl (fun e a' w' => Lat E n0 w F Γ H (Q e) a' w') { tmps := tmps, defers := df } (.returned v) w' := by
  obtain ⟨fn', t', ps', a', b', st, hl, hm⟩ := hK
  cases hv with
  | yield hs hb2 =>
    rename_i s
    have hro := hS'.obj _ _ _ hs hl
    obtain ⟨b, lp, hb, hh, _, _, _, _, hst, _⟩ := hro
    obtain rfl : b = bl := by rw [hb2] at hb; exact (Option.some.inj hb).symm
    have hnb : lp.state ≠ LoopState.busy := by
      cases st with
      | none => rw [hst.1]; simp
      | some c => rw [hst.1]; simp
    have hpend : lp.pending = st := by
      cases st with
      | none => exact hst.2
      | some c => exact hst.2
    have hend : (Instr.endLoop b).run E.P w' = .ok st (putB w' b (.loop { lp with state := .exhausted })) := by
      simp [Instr.endLoop, run_getLoop hh, hnb, run_setLoop _ hh, hpend]
    generalize (Obj.loop { lp with state := .exhausted }) = ob at hend
    obtain ⟨F4, Γ4, H4, av4, g1, g2, ⟨_, rfl⟩, g4, g5⟩ := out_ob (n0 := n0) hS' hX0.nlen hs hl rfl hb (ob := ob) (o' := .none) trivial (K := fun H4 => H4 = H'.set l .none) rfl
      (v := undef) (av := .dead) (.dead _)
    have hT4 : RT (putB w' b ob) F4 Γ4 t tmps := hT'.mono g4.sub (g4.stay hS') g5
    have hD4 : DR Γ4 ds df := hD'.mono g5
    have hXall := hX0.trans (Nat.le_refl _) g4
    have fin : ∀ (X : K3), WK E n0 X t (H'.set l .none) ds → Lat E n0 w F Γ H X { tmps := tmps, defers := df } (putB w' b ob) := fun X ⟨t5, H5, ds5, hwk, hQ⟩ => by
      obtain ⟨F5, Γ5, k1, k2, k3, k4⟩ := hwk _ F4 Γ4 tmps df g1 hT4 hD4 g4.nlen
      exact ⟨F5, Γ5, t5, H5, ds5, ⟨k1, k2, k3⟩, hXall.trans (Nat.le_refl _) k4, hQ⟩
    refine ⟨st, _, hend, ?_⟩
    cases st with
    | none => exact fin _ hm
    | some c =>
      cases c with
      | ret => exact wpIn_ret (fin _ hm)
      | exit i => exact wpIn_exit (fin _ hm)
      | _ => exact hm.elim

theorem arng_ok {E : Env} (hE : EnvOk E) {n n0 : Nat} {g : Operand} {ps : Array Tmp} {assign body : Code} {Q : Q3} {t : List AV} {H : List AObj} {ds : List Nat} (h : ∀ fn, arng E n0 (ev E t g) t H ds ps.toList assign body Q fn)
    {w : World} {F : Nat → Prop} {Γ : List Slot} {a : Act} (hR : Rel E w F Γ t H ds a) (hn : n0 ≤ Γ.length) :
    (Code.rangeFunc g ps assign body).wpIn (Wr none) n E.P (fun e a' w' => Lat E n0 w F Γ H (Q e) a' w') a w := by
  refine wpIn_rangeFunc fun fn _ => ?_
  have h := h fn
  obtain ⟨bl, W, F2, Γ2, hrun, s2, hT2, hD2, rv2, x12⟩ := arng_lay (n0 := n0) (ps := ps) (assign := assign) (body := body) fn hR hn
  -- the function
  have key : ∃ f cv caps, a.eval g = .func (.func f) #[] cv ∧ RVL W F2 Γ2 caps cv ∧
      ACalls E f (.yield (H.length + 1) :: caps) (H ++ [.defr, .loop fn t ps.toList assign body (some none)]) (fun _ H' => Krng E n0 Q (H.length + 1) t (H.length :: ds) H') := by
    have hg := ev_ok s2 (a := a) hT2 g
    unfold arng at h
    split at h <;> try exact h.elim
    · rename_i f caps he
      rw [he] at hg
      generalize a.eval g = gv at hg
      have hd := hg.of_d
      cases hd with
      | func f cs vs hs hr =>
        exact ⟨f, vs, caps.map .d, rfl, ⟨by simpa using hs, fun j av hj => by
          rw [List.getElem?_map] at hj
          cases hx : caps[j]? with
          | none => simp [hx] at hj
          | some x => simp [hx] at hj; subst hj; exact .d (hr j x hx)⟩, h⟩
    · rename_i f caps he
      rw [he] at hg
      generalize a.eval g = gv at hg
      cases hg with
      | func f cs vs hs hr => exact ⟨f, vs, caps, rfl, ⟨hs, hr⟩, h⟩
  obtain ⟨f, cv, caps, hev, hcaps, hcall⟩ := key
  have hV : RVL W F2 Γ2 (.yield (H.length + 1) :: caps) (#[.func (.yield bl) #[] #[]] ++ cv) := by
    refine ⟨by simp [hcaps.1]; omega, fun j av hj => ?_⟩
    cases j with
    | zero =>
      simp at hj; subst hj
      rw [Array.getD_eq_getD_getElem?, Array.getElem?_append_left (by simp)]
      exact rv2
    | succ j =>
      have := hcaps.2 j av (by simpa using hj)
      rw [Array.getD_eq_getD_getElem?, Array.getElem?_append_right (by simp)]
      rw [Array.getD_eq_getD_getElem?] at this
      simpa using this
  generalize (H ++ [.defr, .loop fn t ps.toList assign body (some none)]) = HH at *
  have hc : CallsIn (Wr none) (n - 1) E.P f (#[.func (.yield bl) #[] #[]] ++ cv) W (rangePost (Wr none) n E.P bl (fun e a' w' => Lat E n0 w F Γ H (Q e) a' w') { tmps := a.tmps, defers := ({ target := .collected w.heap.size, args := #[] } : Deferred) :: a.defers }) := by
    refine Wr_calls ((hcall.2 W F2 Γ2 _ s2 hV).mono ?_)
    rintro e w' ⟨v, r, H', F', Γ', rfl, hS', hv', hK, hX⟩
    have hpre : ∀ (id : Nat) s, Γ2[id]? = some s → Γ'[id]? = some s := fun id s hs => by
      rw [hX.pre id (by rw [← s2.len]; exact (List.getElem?_eq_some_iff.1 hs).1)]; exact hs
    have hstay := hX.stay s2
    have hX0 : Ext n0 W F2 Γ2 HH w' F' Γ' H' :=
      { hX with pre := fun id hid => hX.pre id (by rw [← s2.len]; have := x12.nlen; omega), nlen := Nat.le_trans (by rw [← s2.len]; exact x12.nlen) hX.nlen }
    exact arng_end hS' (hT2.mono hX.sub hstay hpre) (hD2.mono hpre) (rv2.mono hX.sub hstay hpre) (x12.trans (Nat.le_refl _) hX0) hK v
  have hres : (resolve a.eval (rangeCall g bl) 0).run E.P W = .ok { target := .fn (.func f) cv, args := #[.func (.yield bl) #[] #[]] } W := by
    have ec : a.eval (.const (.func (.yield bl) #[] #[])) = .func (.yield bl) #[] #[] := rfl
    simp [resolve, rangeCall, hev, ec, Deferred.ofValue]
  have hinv : (invoke (.fn (.func f) cv) #[.func (.yield bl) #[] #[]]).run E.P W = .ok (.enter f (#[.func (.yield bl) #[] #[]] ++ cv)) W := by
    simp only [invoke]; exact hcall.1 _ _
  have hdep : (Wr none).depth.isSome = true → 1 ≤ n := fun h => by simp [Wr, Fence.wide] at h
  exact ⟨bl, _, W, _, W, f, _, W, hrun, hres, fun _ _ => trivial, hinv, hdep, hc⟩

theorem awp_ok {E : Env} (hE : EnvOk E) {ro : Option Nat} {rd : Bool} (hrd : rd = false → ro = none) {n n0 : Nat} : ∀ (c : Code) (Q : Q3) (t : List AV) (H : List AObj) (ds : List Nat), awp E n0 rd c Q t H ds →
    ∀ (w : World) (F : Nat → Prop) (Γ : List Slot) (a : Act), Rel E w F Γ t H ds a → n0 ≤ Γ.length →
      c.wpIn (Wr ro) n E.P (fun e a' w' => Lat E n0 w F Γ H (Q e) a' w') a w
  | .skip, Q, t, H, ds, h, w, F, Γ, a, hR, hn => wpIn_skip ⟨F, Γ, t, H, ds, hR, Ext.refl hn, h⟩
  | .region id ops draw, Q, t, H, ds, h, w, F, Γ, a, hR, hn => by
    cases draw with
    | false =>
      refine wpIn_region_list ?_
      have := areg_ok (ro := ro) (n := n) hE ops.toList (Q .normal) ops.toList t H ds h w F Γ a hR hn (fun e a' w' => Lat E n0 w F Γ H (Q e) a' w') (fun _ _ h => h)
      simpa using this
    | true =>
      rcases h with ⟨h1, h2⟩ | ⟨h1, h2⟩
      · exact draw_ok hE h1 h2 hR hn (fun _ _ h => h)
      · exact draw2_ok hE h1 h2 hR hn (fun _ _ h => h)
  | .seq x y, Q, t, H, ds, h, w, F, Γ, a, hR, hn => by
    refine wpIn_seq (wpIn_mono (awp_ok hE hrd x _ t H ds h w F Γ a hR hn) ?_)
    rintro e a1 w1 ⟨F1, Γ1, t1, H1, ds1, hR1, hX1, hQ1⟩
    cases e with
    | normal =>
      refine wpIn_mono (awp_ok hE hrd y Q t1 H1 ds1 hQ1 w1 F1 Γ1 a1 hR1 hX1.nlen) ?_
      rintro e a2 w2 ⟨F2, Γ2, t2, H2, ds2, hR2, hX2, hQ2⟩
      exact ⟨F2, Γ2, t2, H2, ds2, hR2, hX1.trans (Nat.le_refl _) hX2, hQ2⟩
    | _ => exact ⟨F1, Γ1, t1, H1, ds1, hR1, hX1, hQ1⟩
  | .cond c x y, Q, t, H, ds, h, w, F, Γ, a, hR, hn => by
    simp only [awp] at h
    split at h <;> try exact h.elim
    rename_i b hc
    have hv := ev_ok hR.sr hR.rt c
    rw [hc] at hv
    have hv' := RD_bool hv.of_d
    exact wpIn_cond_split hv' (fun hb => awp_ok hE hrd x Q t H ds (h.1 hb) w F Γ a hR hn) (fun hb => awp_ok hE hrd y Q t H ds (h.2 hb) w F Γ a hR hn)
  | .block id x, Q, t, H, ds, h, w, F, Γ, a, hR, hn => by
    refine wpIn_block (wpIn_mono (awp_ok hE hrd x _ t H ds h w F Γ a hR hn) ?_)
    rintro e a1 w1 ⟨F1, Γ1, t1, H1, ds1, hR1, hX1, hQ1⟩
    cases e with
    | exit i =>
      simp only [Exit.inBlock] at hQ1 ⊢
      split
      · rename_i hi; rw [if_pos hi] at hQ1; exact ⟨F1, Γ1, t1, H1, ds1, hR1, hX1, hQ1⟩
      · rename_i hi; rw [if_neg hi] at hQ1; exact ⟨F1, Γ1, t1, H1, ds1, hR1, hX1, hQ1⟩
    | _ => exact ⟨F1, Γ1, t1, H1, ds1, hR1, hX1, hQ1⟩
  | .loop x, Q, t, H, ds, h, w, F, Γ, a, hR, hn => by
    obtain ⟨I, ⟨k0, t0, H0, ds0, hwk, hI0⟩, hround⟩ := h
    obtain ⟨F0, Γ0, s1, s2, s3, s4⟩ := hwk w F Γ a.tmps a.defers hR.sr hR.rt hR.dr hn
    -- the invariant, over the machine's states
    let J : Nat → Act → World → Prop := fun k a' w' => Lat E n0 w F Γ H (I k) a' w'
    have hJ0 : J k0 a w := ⟨F0, Γ0, t0, H0, ds0, ⟨s1, s2, s3⟩, s4, hI0⟩
    refine wpIn_loop (fun a' w' => ∃ k, J k a' w') (fun a' w' => Classical.epsilon fun k => J k a' w' ∧ ∀ j, J j a' w' → k ≤ j) ⟨k0, hJ0⟩ ?_
    rintro a1 w1 ⟨k1, hk1⟩
    -- the least number
    have least : ∀ a' w', (∃ k, J k a' w') → J (Classical.epsilon fun k => J k a' w' ∧ ∀ j, J j a' w' → k ≤ j) a' w' ∧ ∀ j, J j a' w' → (Classical.epsilon fun k => J k a' w' ∧ ∀ j, J j a' w' → k ≤ j) ≤ j := fun a' w' hex => by
      have : ∃ k, J k a' w' ∧ ∀ j, J j a' w' → k ≤ j := by
        obtain ⟨k, hk⟩ := hex
        induction k using Nat.strongRecOn with
        | _ k ih =>
          by_cases hm : ∃ j, j < k ∧ J j a' w'
          · obtain ⟨j, hj, hJj⟩ := hm; exact ih j hj hJj
          · exact ⟨k, hk, fun j hj => Nat.le_of_not_lt fun hlt => hm ⟨j, hlt, hj⟩⟩
      exact Classical.epsilon_spec this
    obtain ⟨hm1, _⟩ := least a1 w1 ⟨k1, hk1⟩
    generalize hμ : (Classical.epsilon fun k => J k a1 w1 ∧ ∀ j, J j a1 w1 → k ≤ j) = m1 at hm1 ⊢
    obtain ⟨F1, Γ1, t1, H1, ds1, hR1, hX1, hI1⟩ := hm1
    refine wpIn_mono (awp_ok hE hrd x _ t1 H1 ds1 (hround m1 t1 H1 ds1 hI1) w1 F1 Γ1 a1 hR1 hX1.nlen) ?_
    rintro e a2 w2 ⟨F2, Γ2, t2, H2, ds2, hR2, hX2, hQ2⟩
    cases e with
    | normal =>
      obtain ⟨k', hk', t3, H3, ds3, hwk3, hI3⟩ := hQ2
      obtain ⟨F3, Γ3, u1, u2, u3, u4⟩ := hwk3 w2 F2 Γ2 a2.tmps a2.defers hR2.sr hR2.rt hR2.dr hX2.nlen
      have hJ' : J k' a2 w2 := ⟨F3, Γ3, t3, H3, ds3, ⟨u1, u2, u3⟩, (hX1.trans (Nat.le_refl _) hX2).trans (Nat.le_refl _) u4, hI3⟩
      exact ⟨⟨k', hJ'⟩, Nat.lt_of_le_of_lt ((least a2 w2 ⟨k', hJ'⟩).2 k' hJ') hk'⟩
    | _ => exact ⟨F2, Γ2, t2, H2, ds2, hR2, hX1.trans (Nat.le_refl _) hX2, hQ2⟩
  | .exit id, Q, t, H, ds, h, w, F, Γ, a, hR, hn => wpIn_exit ⟨F, Γ, t, H, ds, hR, Ext.refl hn, h⟩
  | .ret, Q, t, H, ds, h, w, F, Γ, a, hR, hn => wpIn_ret ⟨F, Γ, t, H, ds, hR, Ext.refl hn, h⟩
  | .rangeFunc g ps assign body, Q, t, H, ds, h, w, F, Γ, a, hR, hn => by
    obtain ⟨rfl, h⟩ := h
    obtain rfl := hrd rfl
    exact arng_ok hE h hR hn
  | .scope _, Q, t, H, ds, h, _, _, _, _, _, _ => h.elim
  | .label _, Q, t, H, ds, h, _, _, _, _, _, _ => h.elim
  | .goto _, Q, t, H, ds, h, _, _, _, _, _, _ => h.elim
  | .refuse _, Q, t, H, ds, h, _, _, _, _, _, _ => h.elim

/-! ### A round's contract from its code -/
def putPs : List AV → List Tmp → List AV → List AV
  | t, p :: ps, a :: as => putPs (t.set p a) ps as
  | t, _, _ => t
/-- What is asked at a round's end. -/
def Qrnd (E : Env) (n0 id : Nat) (K : AV → List AObj → Prop) : Q3 := fun e t H ds => match e with
  | .normal => WK E n0 (fun _ H' _ => ∃ fn t' ps a b, H'[id]? = some (.loop fn t' ps a b none) ∧ K (.d (.bool true)) (H'.set id (.loop fn t' ps a b (some none)))) t H ds
  | .ret => WK E n0 (fun _ H' _ => ∃ fn t' ps a b, H'[id]? = some (.loop fn t' ps a b none) ∧ K (.d (.bool false)) (H'.set id (.loop fn t' ps a b (some (some .ret))))) t H ds
  | .exit i => WK E n0 (fun _ H' _ => ∃ fn t' ps a b, H'[id]? = some (.loop fn t' ps a b none) ∧ K (.d (.bool false)) (H'.set id (.loop fn t' ps a b (some (some (.exit i)))))) t H ds
  | _ => False
/-- Behind the assignments. -/
def Qasg (E : Env) (n0 id : Nat) (body : Code) (K : AV → List AObj → Prop) : Q3 := fun e t H ds => match e with
  | .normal => ∃ fn t' ps a, H[id]? = some (.loop fn t' ps a body (some none)) ∧ awp E n0 true body (Qrnd E n0 id K) t (H.set id (.loop fn t' ps a body none)) ds
  | _ => False

theorem RT.putPs {w : World} {F : Nat → Prop} {Γ : List Slot} : ∀ (ps : List Tmp) (as : List AV) (vs : List Value) (t : List AV) (tm : Array Value), RT w F Γ t tm → as.length = vs.length →
    (∀ j av, as[j]? = some av → RV w F Γ av (vs.getD j undef)) → RT w F Γ (putPs t ps as) ((ps.zip vs).foldl (fun tm (p : Tmp × Value) => tm.setIfInBounds p.1 p.2) tm)
  | [], as, vs, t, tm, h, _, _ => by simpa [Abs.putPs] using h
  | p :: ps, [], vs, t, tm, h, hl, _ => by
    have : vs = [] := List.eq_nil_of_length_eq_zero (by simpa using hl.symm)
    subst this
    simpa [Abs.putPs] using h
  | p :: ps, a :: as, [], t, tm, h, hl, _ => by simp at hl
  | p :: ps, a :: as, v :: vs, t, tm, h, hl, hv => by
    simp only [Abs.putPs, List.zip_cons_cons, List.foldl_cons]
    exact RT.putPs ps as vs _ _ (h.set p (by simpa using hv 0 a rfl)) (by simpa using hl) (fun j av hj => by simpa using hv (j + 1) av (by simpa using hj))

theorem ayield_of {E : Env} (hE : EnvOk E) {id : Nat} {args : List AV} {H : List AObj} {K : AV → List AObj → Prop} {fn : FuncId} {t : List AV} {ps : List Tmp} {assign body : Code}
    (ho : H[id]? = some (.loop fn t ps assign body (some none))) (hl : args.length = ps.length)
    (h : awp E H.length true assign (Qasg E H.length id body K) (putPs t ps args) H []) : AYield E id args H K := by
  intro w F Γ vs s b hS hV hs hb
  obtain ⟨b', l, hb', hh, h1, h2, h3, h4, hst, h5⟩ := hS.obj id s _ hs ho
  obtain rfl : b' = b := by rw [hb] at hb'; exact (Option.some.inj hb').symm
  have hn : H.length ≤ Γ.length := by rw [hS.len]; exact Nat.le_refl _
  have hlt : id < H.length := (List.getElem?_eq_some_iff.1 ho).1
  have hsz : vs.size = l.params.size := by rw [hV.1, hl, ← h2]; simp
  have hT : RT w F Γ (putPs t ps args) ((l.params.zip vs).foldl (fun tm (p : Tmp × Value) => tm.setIfInBounds p.1 p.2) l.tmps) := by
    have := RT.putPs (w := w) (F := F) (Γ := Γ) ps args vs.toList t l.tmps h5 (by simp [hV.1]) (fun j av hj => by
      have := hV.2 j av hj
      rwa [Array.getD_eq_getD_getElem?, ← Array.getElem?_toList, ← List.getD_eq_getElem?_getD] at this)
    rw [← h2] at this ⊢
    rw [← Array.foldl_toList]
    simpa using this
  refine ⟨l.fn, (l.params.zip vs).foldl (fun tm (p : Tmp × Value) => tm.setIfInBounds p.1 p.2) l.tmps, l.assign, l.body, ?_, ?_⟩
  · simp [Instr.yield, run_getLoop hh, hsz]
  rw [h3, h4]
  refine roundIn_of_wpIn (F := Fence.wide) trivial ?_
  refine wpIn_mono (awp_ok (ro := some b') (rd := true) (n := 0) hE (fun h => by cases h) assign _ _ H [] h w F Γ _ ⟨hS, hT, ⟨rfl, fun i id hi => by simp at hi⟩⟩ hn) ?_
  rintro e a1 w1 ⟨F1, Γ1, t1, H1, ds1, hR1, hX1, hq⟩
  cases e with
  | normal =>
    obtain ⟨fn1, t1', ps1, as1, ho1, hbody⟩ := hq
    have hs1 : Γ1[id]? = some s := by rw [hX1.pre id hlt]; exact hs
    obtain ⟨b1, l1, hb1, hh1, k1, k2, k3, k4, kst, k5⟩ := hR1.sr.obj id s _ hs1 ho1
    obtain rfl : b1 = b' := by rw [hb] at hb1; exact (Option.some.inj hb1).symm
    have hbeg : (Instr.beginRound b1).run E.P w1 = .ok () (putB w1 b1 (.loop { l1 with state := .busy })) := by
      simp [Instr.beginRound, run_getLoop hh1, run_setLoop _ hh1, kst.1]
    have hnF : ∀ (ob : Obj) q, F1 q → (putB w1 b1 ob).heap[q]? = w1.heap[q]? := fun ob q hq => putB_other w1 b1 q ob fun e => by subst e; exact hR1.sr.sep id s _ q hs1 ho1 rfl hb hq
    obtain ⟨F2, Γ2, H2, av2, s2, _, ⟨_, rfl⟩, x2, p2⟩ := out_ob (n0 := H.length) hR1.sr hX1.nlen hs1 ho1 rfl hb (ob := .loop { l1 with state := .busy }) (o' := .loop fn1 t1' ps1 as1 body none)
      ⟨b1, { l1 with state := .busy }, hb, putB_same hh1 _, k1, k2, k3, k4, rfl, k5.1, fun j av hj => (k5.2 j av hj).mono (fun _ h => h) (hnF _) (fun _ _ h => h)⟩
      (K := fun H2 => H2 = H1.set id (.loop fn1 t1' ps1 as1 body none)) rfl (v := undef) (av := .dead) (.dead _)
    refine ⟨_, hbeg, ?_⟩
    generalize (Obj.loop { l1 with state := .busy }) = ob1 at s2 x2 hbeg ⊢
    have hT2 : RT (putB w1 b1 ob1) F2 Γ2 t1 a1.tmps := hR1.rt.mono x2.sub (x2.stay hR1.sr) p2
    have hD2 : DR Γ2 ds1 a1.defers := hR1.dr.mono p2
    refine wpIn_mono (awp_ok (ro := some b1) (rd := true) (n := 0) hE (fun h => by cases h) body _ t1 _ ds1 hbody _ F2 Γ2 a1 ⟨s2, hT2, hD2⟩ x2.nlen) ?_
    rintro e a3 w3 ⟨F3, Γ3, t3, H3, ds3, hR3, hX3, hq3⟩
    have hX13 := (hX1.trans (Nat.le_refl _) x2).trans (Nat.le_refl _) hX3
    -- the round's end
    have fin : ∀ (bv : Bool) (jmp : Option Code) (st : Option Code), bv = jmp.isNone → st = jmp → (WK E H.length (fun _ H' _ => ∃ fn t' ps a b, H'[id]? = some (.loop fn t' ps a b none) ∧ K (.d (.bool bv)) (H'.set id (.loop fn t' ps a b (some st)))) t3 H3 ds3) →
        ∃ v w', (Instr.endRound b1 jmp).run E.P w3 = .ok v w' ∧ ∃ v' r H' F' Γ', Ending.returned v = .returned v' ∧ SR E w' F' Γ' H' ∧ RV w' F' Γ' r v' ∧ K r H' ∧ Ext H.length w F Γ H w' F' Γ' H' := by
      rintro bv jmp st rfl rfl ⟨t4, H4, ds4, hwk, fn4, t4', ps4, as4, bd4, ho4, hK⟩
      obtain ⟨F4, Γ4, g1, g2, g3, g4⟩ := hwk w3 F3 Γ3 a3.tmps a3.defers hR3.sr hR3.rt hR3.dr hX3.nlen
      have hX14 := hX13.trans (Nat.le_refl _) g4
      have hs4 : Γ4[id]? = some s := by rw [hX14.pre id hlt]; exact hs
      obtain ⟨b4, l4, hb4, hh4, q1, q2, q3, q4, qst, q5⟩ := g1.obj id s _ hs4 ho4
      obtain rfl : b4 = b1 := by rw [hb] at hb4; exact (Option.some.inj hb4).symm
      have hnF4 : ∀ (ob : Obj) q, F4 q → (putB w3 b4 ob).heap[q]? = w3.heap[q]? := fun ob q hq => putB_other w3 b4 q ob fun e => by subst e; exact g1.sep id s _ q hs4 ho4 rfl hb hq
      obtain ⟨F5, Γ5, H5, av5, s5, r5, ⟨rfl, hK5⟩, x5, p5⟩ := out_ob (n0 := H.length) g1 hX14.nlen hs4 ho4 rfl hb (ob := .loop { l4 with state := if st.isNone then .ready else .done, pending := st }) (o' := .loop fn4 t4' ps4 as4 bd4 (some st))
        ⟨b4, _, hb, putB_same hh4 _, q1, q2, q3, q4, by cases st <;> exact ⟨rfl, rfl⟩, q5.1, fun j av hj => (q5.2 j av hj).mono (fun _ h => h) (hnF4 _) (fun _ _ h => h)⟩
        (K := K (.d (.bool st.isNone))) hK (v := .bool st.isNone) (av := .d (.bool st.isNone)) (.d (.bool _))
      exact ⟨_, _, by simp [Instr.endRound, run_getLoop hh4, run_setLoop _ hh4], _, _, H5, F5, Γ5, rfl, s5, r5, hK5, hX14.trans (Nat.le_refl _) x5⟩
    cases e with
    | normal => exact fin true none none rfl rfl hq3
    | ret => exact fin false (some .ret) (some .ret) rfl rfl hq3
    | exit i => exact fin false (some (.exit i)) (some (.exit i)) rfl rfl hq3
    | _ => exact hq3.elim
  | _ => exact hq.elim
end Go.Abs
