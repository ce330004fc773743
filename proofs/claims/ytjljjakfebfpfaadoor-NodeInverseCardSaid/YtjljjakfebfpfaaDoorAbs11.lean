/-
  A function's contract from its body; the same state told in another way.
-/
import Derived.Test.YtjljjakfebfpfaaDoorAbs10
set_option autoImplicit false
set_option linter.unusedVariables false
set_option linter.unusedSimpArgs false
namespace Go.Abs

def aresL (E : Env) (t : List AV) (H : List AObj) : List ResultVar → (List AV → Prop) → Prop
  | [], K => K []
  | .tmp i :: r, K => aresL E t H r fun l => K (t.getD i .dead :: l)
  | .cell a T :: r, K => aload E T H (fun v => aresL E t H r fun l => K (v :: l)) (t.getD a .dead)
def one? : List AV → AV
  | [v] => v
  | l => mkTup l
def ares (E : Env) (fn : Func) (t : List AV) (H : List AObj) (K : AV → Prop) : Prop := aresL E t H fn.results.toList fun l => K (one? l)

/-- The marks that a function leaves with; and the objects when they are taken away. -/
def allDefr : List AObj → List Nat → Prop
  | _, [] => True
  | H, d :: ds => H[d]? = some .defr ∧ allDefr (H.set d .none) ds
def offs : List AObj → List Nat → List AObj
  | H, [] => H
  | H, d :: ds => offs (H.set d .none) ds
def aret (E : Env) (n0 : Nat) (fn : Func) (K : AV → List AObj → Prop) : Q3 := fun e t H ds => match e with
  | .normal => WK E n0 (fun t H ds => allDefr H ds ∧ ares E fn t (offs H ds) fun v => K v (offs H ds)) t H ds
  | .ret => WK E n0 (fun t H ds => allDefr H ds ∧ ares E fn t (offs H ds) fun v => K v (offs H ds)) t H ds
  | _ => False

section
variable {E : Env} {w w' : World} {F F' : Nat → Prop} {Γ Γ' Γ0 : List Slot} {H H' H0 : List AObj} {n0 : Nat}

theorem RT.at {t : List AV} {tm : Array Value} (h : RT w F Γ t tm) (i : Nat) : RV w F Γ (t.getD i .dead) (tm.getD i undef) := by
  rw [List.getD_eq_getElem?_getD]
  cases hx : t[i]? with
  | none => exact .dead _
  | some av => exact h.2 i av hx

theorem load_as {P : Program} {T : TypeId} {v u : Value} (h : (Instr.loadAt T v).run P w = .ok u w) : (do loadVar T (← asAddr v) : Sem Value).run P w = .ok u w := by
  cases v
  case pointer a =>
    cases a with
    | some a => simpa [Instr.loadAt, Instr.sureAddr, asAddr] using h
    | none => simp [Instr.loadAt, Instr.sureAddr] at h
  all_goals simp [Instr.loadAt, Instr.sureAddr] at h
def resOf (tm : Array Value) : ResultVar → Sem Value
  | .tmp t => pure (tm.getD t undef)
  | .cell a t => do loadVar t (← asAddr (tm.getD a undef))
theorem aresL_ok (hE : EnvOk E) (hS : SR E w F Γ H) {t : List AV} {tm : Array Value} (hT : RT w F Γ t tm) : ∀ (rs : List ResultVar) (K : List AV → Prop), aresL E t H rs K →
    ∃ (vs : List Value) (l : List AV), (rs.mapM (resOf tm)).run E.P w = .ok vs w ∧ K l ∧ vs.length = l.length ∧ ∀ (j : Nat) (a : AV), l[j]? = some a → RV w F Γ a (vs.getD j undef)
  | [], K, h => ⟨[], [], by simp, h, rfl, fun j a hj => by simp at hj⟩
  | .tmp i :: r, K, h => by
    obtain ⟨vs, l, h1, h2, h3, h4⟩ := aresL_ok hE hS hT r _ h
    refine ⟨tm.getD i undef :: vs, _, by simp [List.mapM_cons, resOf, h1], h2, by simp [h3], fun j a hj => ?_⟩
    cases j with
    | zero => simp at hj; subst hj; exact hT.at i
    | succ j => simpa using h4 j a (by simpa using hj)
  | .cell c T :: r, K, h => by
    obtain ⟨u, au, g1, g2, g3⟩ := aload_ok hE hS h (hT.at c)
    obtain ⟨vs, l, h1, h2, h3, h4⟩ := aresL_ok hE hS hT r _ g2
    have g1' := load_as g1
    have e : (resOf tm (.cell c T)).run E.P w = .ok u w := g1'
    refine ⟨u :: vs, _, by rw [List.mapM_cons]; simp [e, h1], h2, by simp [h3], fun j a hj => ?_⟩
    cases j with
    | zero => simp at hj; subst hj; exact g3
    | succ j => simpa using h4 j a (by simpa using hj)

theorem ares_ok (hE : EnvOk E) (hS : SR E w F Γ H) {fn : Func} {t : List AV} {K : AV → Prop} (h : ares E fn t H K) {tm : Array Value} (hT : RT w F Γ t tm) : ∃ v av, (results fn tm).run E.P w = .ok v w ∧ K av ∧ RV w F Γ av v := by
  obtain ⟨vs, l, h1, h2, h3, h4⟩ := aresL_ok hE hS hT _ _ h
  have e : (results fn tm).run E.P w = .ok (if h : vs.toArray.size = 1 then vs.toArray[0] else .tuple vs.toArray) w := by
    have e1 : fn.results.mapM (resOf tm) = List.toArray <$> fn.results.toList.mapM (resOf tm) := by
      conv => lhs; rw [← Array.toArray_toList (xs := fn.results)]
      rw [List.mapM_toArray]
    have e2 : results fn tm = (do let vs ← fn.results.mapM (resOf tm); pure (if h : vs.size = 1 then vs[0] else .tuple vs)) := by
      unfold results
      congr 1
    rw [e2, e1]
    simp [h1]
  refine ⟨_, one? l, e, h2, ?_⟩
  clear e h2 h1
  match l, vs, h3, h4 with
  | [a], [v], _, h4 => simpa [one?] using h4 0 a rfl
  | [], [], _, _ => exact mkTup_ok [] #[] rfl fun j d hj => by simp at hj
  | a :: b :: l, v :: u :: vs, h3, h4 =>
    rw [dif_neg (by simp)]
    simp only [one?]
    exact mkTup_ok _ _ (by simpa using h3) fun j d hj => by
      have := h4 j d hj
      simpa [Array.getD_eq_getD_getElem?, List.getD_eq_getElem?_getD] using this

theorem enters_of {P : Program} {f : FuncId} {fn : Func} {c : Code} (hf : P.funcs[f]? = some fn) (hb : fn.body = some c) (hnm : (fn.name == "runtime.NumGoroutine") = false) : Enters P f := fun args w => by
  have : ¬fn.name = "runtime.NumGoroutine" := by simpa using hnm
  simp [callFunc, hf, hb, this]

theorem leaves_marks (hE : EnvOk E) {n n0 : Nat} {fn : Func} {K : AV → List AObj → Prop} {w0 : World} {F0 : Nat → Prop} : ∀ (ds : List Nat) (df : List Deferred) (w : World) (F : Nat → Prop) (Γ : List Slot) (t : List AV) (tm : Array Value) (H : List AObj),
    SR E w F Γ H → RT w F Γ t tm → DR Γ ds df → Ext n0 w0 F0 Γ0 H0 w F Γ H → allDefr H ds → ares E fn t (offs H ds) (fun v => K v (offs H ds)) →
    LeavesInM (Wr none) n E.P fn tm (fun e w' => ∃ v' r H' F' Γ', e = Ending.returned v' ∧ SR E w' F' Γ' H' ∧ RV w' F' Γ' r v' ∧ K r H' ∧ Ext n0 w0 F0 Γ0 H0 w' F' Γ' H') df .returning w
  | [], df, w, F, Γ, t, tm, H, hS, hT, hD, hX, hds, hres => by
    obtain rfl : df = [] := List.eq_nil_of_length_eq_zero hD.1
    obtain ⟨v, av, hrun, hK, hrv⟩ := ares_ok hE hS hres hT
    exact ⟨v, hrun, v, av, H, F, Γ, rfl, hS, hrv, hK, hX⟩
  | d :: ds, [], w, F, Γ, t, tm, H, hS, hT, hD, hX, hds, hres => by have := hD.1; simp at this
  | d :: ds, d0 :: df, w, F, Γ, t, tm, H, hS, hT, hD, hX, hds, hres => by
    obtain ⟨s, b, hs, hb, hd0⟩ := hD.2 0 d rfl
    simp at hd0
    subst hd0
    obtain ⟨ho, hds⟩ := hds
    obtain ⟨b', hb', hh⟩ := hS.obj d s _ hs ho
    obtain rfl : b' = b := by rw [hb] at hb'; exact (Option.some.inj hb').symm
    have htake : (Instr.takeDeferred b').run E.P w = .ok [] (putB w b' (.deferred none)) := by
      simp [Instr.takeDeferred, getObj, setObj, Sem.run, hh, putB]
    obtain ⟨F4, Γ4, H4, av4, g1, g2, ⟨_, rfl⟩, g4, g5⟩ := out_ob (n0 := n0) hS hX.nlen hs ho rfl hb (ob := .deferred none) (o' := .none) trivial (K := fun H4 => H4 = H.set d .none) rfl (v := undef) (av := .dead) (.dead _)
    refine ⟨by simp, .inl ⟨b', _, rfl, htake, ?_⟩⟩
    exact leaves_marks hE ds df _ F4 Γ4 t tm _ g1 (hT.mono g4.sub (g4.stay hS) g5) ⟨by have := hD.1; simpa using this, fun i id hi => by
      obtain ⟨s', b2, q1, q2, q3⟩ := hD.2 (i + 1) id (by simpa using hi)
      exact ⟨s', b2, g5 _ _ q1, q2, by simpa using q3⟩⟩ (hX.trans (Nat.le_refl _) g4) hds hres

/-- **A FUNCTION's CONTRACT FROM ITS BODY.** -/
theorem acalls_of_awp (hE : EnvOk E) {f : FuncId} {fn : Func} {c : Code} {args : List AV} {K : AV → List AObj → Prop} (hf : E.P.funcs[f]? = some fn) (hb : fn.body = some c) (hnm : (fn.name == "runtime.NumGoroutine") = false)
    {m : Nat} (hm : fn.ntmps - args.length = m) (h : awp E H.length false c (aret E H.length fn K) (args ++ List.replicate m .dead) H []) : ACalls E f args H K := by
  refine ⟨enters_of hf hb hnm, fun w F Γ vs hS hV => ?_⟩
  refine (callsIn_wide (n := 0)).1 (callsIn_of_wp_marks (F := Wr none) (n := 0) hf hb trivial ?_ rfl)
  subst hm
  have hT : RT w F Γ (args ++ List.replicate (fn.ntmps - args.length) .dead) (vs ++ Array.replicate (fn.ntmps - vs.size) undef) := by
    refine ⟨by simp [hV.1], fun j av hj => ?_⟩
    rw [List.getElem?_append] at hj
    split at hj
    · rename_i hlt
      have := hV.2 j av hj
      rwa [Array.getD_eq_getD_getElem?, Array.getElem?_append_left (by rw [hV.1]; exact hlt), ← Array.getD_eq_getD_getElem?]
    · rw [List.getElem?_replicate] at hj
      split at hj <;> simp at hj
      subst hj
      exact .dead _
  have hn : H.length ≤ Γ.length := by rw [hS.len]; exact Nat.le_refl _
  refine wpIn_mono (awp_ok (ro := none) (n := 0) hE (fun _ => rfl) c _ _ H [] h w F Γ _ ⟨hS, hT, ⟨rfl, fun i id hi => by simp at hi⟩⟩ hn) ?_
  have fin : ∀ a' w', Lat E H.length w F Γ H (fun t H' ds => WK E H.length (fun t H' ds => allDefr H' ds ∧ ares E fn t (offs H' ds) fun v => K v (offs H' ds)) t H' ds) a' w' →
      LeavesInM (Wr none) 0 E.P fn a'.tmps (fun e w' => ∃ v' r H' F' Γ', e = Ending.returned v' ∧ SR E w' F' Γ' H' ∧ RV w' F' Γ' r v' ∧ K r H' ∧ Ext H.length w F Γ H w' F' Γ' H') a'.defers .returning w' := by
    rintro a' w' ⟨F1, Γ1, t1, H1, ds1, hR1, hX1, t2, H2, ds2, hwk, hds, hres⟩
    obtain ⟨F2, Γ2, k1, k2, k3, k4⟩ := hwk w' F1 Γ1 a'.tmps a'.defers hR1.sr hR1.rt hR1.dr hX1.nlen
    exact leaves_marks hE ds2 _ w' F2 Γ2 t2 _ H2 k1 k2 k3 (hX1.trans (Nat.le_refl _) k4) hds hres
  intro e a' w' hl
  cases e with
  | normal => exact fin a' w' hl
  | ret => exact fin a' w' hl
  | _ => obtain ⟨_, _, _, _, _, _, _, hq⟩ := hl; exact hq.elim

/-! ### Telling anew -/
def tellL (r : Nat → Nat) (n : Nat) : List AV → List AV → Prop
  | [], [] => True
  | a :: l, b :: m => (a = .dead ∨ (b = a.ren r ∧ a.bel n = true)) ∧ tellL r n l m
  | _, _ => False
theorem tellL_get {r : Nat → Nat} {n : Nat} : ∀ {t' t : List AV}, tellL r n t' t → t'.length = t.length ∧ ∀ (j : Nat) (a : AV), t'[j]? = some a → a = .dead ∨ (t[j]? = some (a.ren r) ∧ a.bel n = true)
  | [], [], _ => ⟨rfl, fun j a h => by simp at h⟩
  | a :: l, b :: m, h => by
    obtain ⟨h1, h2⟩ := h
    obtain ⟨h3, h4⟩ := tellL_get h2
    refine ⟨by simp [h3], fun j c hj => ?_⟩
    cases j with
    | zero =>
      simp at hj; subst hj
      rcases h1 with h1 | ⟨h1, h5⟩
      · exact .inl h1
      · exact .inr ⟨by simp [h1], h5⟩
    | succ j => simpa using h4 j c (by simpa using hj)
  | [], _ :: _, h => h.elim
  | _ :: _, [], h => h.elim

/-- The same state with some of its objects, in another order; slots forgotten. -/
theorem Wk.tell (σ : List Nat) {t t' : List AV} (hs : Sb σ H H') (ht : tellL (rn σ H.length) σ.length t' t) (hn0 : ∀ id, id < n0 → σ[id]? = some id) : Wk E n0 t H [] t' H' [] := fun w F Γ tm df hS hT hD hn => by
  have hin : ∀ i ∈ σ, i < Γ.length := fun i hi => by rw [hS.len]; exact hs.inH i hi
  obtain ⟨hS0, hL0⟩ := hS.sub hs
  have hdown : ∀ id s, id < σ.length → Γ[rn σ H.length id]? = some s → (sg σ Γ)[id]? = some s := fun id s hid hg => by
    rw [rn_lt hid] at hg
    exact (sg_get hin).2 ⟨_, List.getElem?_eq_getElem hid, hg⟩
  obtain ⟨h1, h2⟩ := tellL_get ht
  refine ⟨F, sg σ Γ, hS0, ⟨by rw [hT.1, h1], fun j av hj => ?_⟩, ⟨hD.1, fun i id hi => by simp at hi⟩, ?_⟩
  · rcases h2 j av hj with rfl | ⟨h3, h4⟩
    · exact .dead _
    · exact (hT.2 j _ h3).down hdown (AV.bel_ok _ _ h4)
  · refine ⟨rfl, rfl, rfl, Nat.le_refl _, fun _ _ _ => rfl, fun _ h => h, fun _ h _ => .inl h, fun b hb _ => hL0 b hb, fun id hid => ?_, ?_⟩
    · have e := hn0 id hid
      cases hg : Γ[id]? with
      | none =>
        have := hin id (List.mem_of_getElem? e)
        rw [List.getElem?_eq_getElem this] at hg; cases hg
      | some s => exact (sg_get hin).2 ⟨id, e, hg⟩
    · cases n0 with
      | zero => exact Nat.zero_le _
      | succ n0 =>
        have := (List.getElem?_eq_some_iff.1 (hn0 n0 (by omega))).1
        simp only [sg, List.length_map]; omega

/-- Slots of the frame forgotten. -/
def fgt : List AV → List AV → Prop
  | [], [] => True
  | a :: l, b :: m => (a = .dead ∨ a = b) ∧ fgt l m
  | _, _ => False
theorem fgt_get : ∀ {t' t : List AV}, fgt t' t → t'.length = t.length ∧ ∀ (j : Nat) (a : AV), t'[j]? = some a → a = .dead ∨ t[j]? = some a
  | [], [], _ => ⟨rfl, fun j a h => by simp at h⟩
  | a :: l, b :: m, h => by
    obtain ⟨h1, h2⟩ := h
    obtain ⟨h3, h4⟩ := fgt_get h2
    refine ⟨by simp [h3], fun j c hj => ?_⟩
    cases j with
    | zero =>
      simp at hj; subst hj
      rcases h1 with h1 | h1
      · exact .inl h1
      · exact .inr (by simp [h1])
    | succ j => simpa using h4 j c (by simpa using hj)
  | [], _ :: _, h => h.elim
  | _ :: _, [], h => h.elim
theorem Wk.forget {t t' : List AV} {ds : List Nat} (ht : fgt t' t) : Wk E n0 t H ds t' H ds := fun w F Γ tm df hS hT hD hn => by
  obtain ⟨h1, h2⟩ := fgt_get ht
  refine ⟨F, Γ, hS, ⟨by rw [hT.1, h1], fun j av hj => ?_⟩, hD, Ext.refl hn⟩
  rcases h2 j av hj with rfl | h3
  · exact .dead _
  · exact hT.2 j _ h3

/-- Later objects forgotten. -/
theorem SR.take (hS : SR E w F Γ H) {J : List AObj} (hS' : SR E w' F' Γ' (H ++ J)) (hpre : ∀ id, id < H.length → Γ'[id]? = Γ[id]?) : SR E w' F' Γ H := by
  have hlen := hS.len
  have hup : ∀ (id : Nat) s, Γ[id]? = some s → Γ'[id]? = some s := fun id s h => by rw [hpre id (by rw [← hlen]; exact (List.getElem?_eq_some_iff.1 h).1)]; exact h
  have hH : ∀ {id : Nat} {o : AObj}, H[id]? = some o → (H ++ J)[id]? = some o := fun {id o} h => by rw [List.getElem?_append_left (List.getElem?_eq_some_iff.1 h).1]; exact h
  exact ⟨hlen, fun id s o h1 h2 => (hS.obj id s o h1 h2).back hup (hS'.obj id s o (hup _ _ h1) (hH h2)), fun id s o b h1 h2 => hS'.sep id s o b (hup _ _ h1) (hH h2),
    fun i j si sj oi oj b h1 h2 h3 h4 => hS'.inj i j si sj oi oj b (hup _ _ h1) (hup _ _ h2) (hH h3) (hH h4), hS'.low, hS'.glob⟩

/-- A call that yields plain data, and leaves what was there. -/
theorem ACalls.trunc {g : FuncId} {args : List AV} {K K' : AV → List AObj → Prop} (h : ACalls E g args H K) (hK : ∀ r H', K r H' → ∃ x J, r = .d x ∧ H' = H ++ J ∧ K' (.d x) H) : ACalls E g args H K' := by
  refine ⟨h.1, fun w F Γ vs hS hV => (h.2 w F Γ vs hS hV).mono ?_⟩
  rintro e w' ⟨v, r, H', F', Γ', rfl, hS', hv', hKr, hX⟩
  obtain ⟨x, J, rfl, rfl, hK1⟩ := hK r H' hKr
  refine ⟨v, .d x, H, F', Γ, rfl, hS.take hS' hX.pre, .d hv'.of_d, hK1, hX.os, hX.tape, hX.output, hX.size, hX.unch, hX.sub, hX.new, fun b hb _ => hb, fun _ _ => rfl, by rw [hS.len]; exact Nat.le_refl _⟩

/-- A call with plain data that yields plain data: wherever. -/
def PCall (E : Env) (g : FuncId) (args : List D) (r : D) : Prop := ACalls E g (args.map .d) [] fun v _ => v = .d r
theorem PCall.anywhere {g : FuncId} {args : List D} {r : D} (h : PCall E g args r) (H : List AObj) : ACalls E g (args.map .d) H fun v H' => v = .d r ∧ H' = H := by
  have hren : ∀ (f : Nat → Nat) (l : List D), (l.map AV.d).map (AV.ren f) = l.map .d := fun f l => by simp [AV.ren, Function.comp_def]
  have hbel : ∀ (l : List D), AV.belL 0 (l.map AV.d) = true := fun l => by induction l with
    | nil => rfl
    | cons a l ih => simp [AV.belL, AV.bel, ih]
  have h1 : ACalls E g (args.map .d) H fun v H' => v = .d r ∧ ∃ J, H' = H ++ J :=
    ACalls.frame h [] ⟨rfl, List.nodup_nil, fun i hi => by simp at hi, fun j i o hj => by simp at hj⟩ (hren _ _).symm (hbel _) (fun v0 H0' hv => by
      subst hv
      exact ⟨rfl, _, by simp [lift, putAll]; rfl⟩)
  exact h1.trunc fun v H' ⟨hv, J, hJ⟩ => ⟨r, J, hv, hJ, rfl, rfl⟩
theorem PCall.use {g : FuncId} {args : List D} {r : D} (h : PCall E g args r) {as : List AV} (ha : as = args.map .d) {K : AV → List AObj → Prop} (hK : K (.d r) H) : ACalls E g as H K := by
  subst ha
  exact (h.anywhere H).mono fun v H' ⟨h1, h2⟩ => by subst h1 h2; exact hK
theorem PCall.quiet {g : FuncId} {args : List D} {r : D} (h : PCall E g args r) {as : List AV} (ha : as = args.map .d) {K : AV → Prop} (hK : K (.d r)) : ∃ v, ACalls E g as H (fun r H' => r = v ∧ H' = H) ∧ K v := by
  subst ha
  exact ⟨_, h.anywhere H, hK⟩

/-! ### Freezing -/
mutual
def AV.frz (id sz : Nat) (xs : List (List D)) : AV → AV
  | .sfull i => if i = id then .d (.slice sz xs) else .sfull i
  | .parr i j k => if i = id then .dead else .parr i j k
  | .spart i lo n => if i = id then .dead else .spart i lo n
  | .func f cs => .func f (AV.frzL id sz xs cs)
  | .iface t v => .iface t (AV.frz id sz xs v)
  | .agg cs => .agg (AV.frzL id sz xs cs)
  | .tup cs => .tup (AV.frzL id sz xs cs)
  | .dead => .dead
  | .d x => .d x
  | .pvar i k => .pvar i k
  | .pval m ys i k => .pval m ys i k
  | .svalf m ys => .svalf m ys
  | .mapo i => .mapo i
  | .yield i => .yield i
def AV.frzL (id sz : Nat) (xs : List (List D)) : List AV → List AV
  | [] => []
  | a :: l => AV.frz id sz xs a :: AV.frzL id sz xs l
end
theorem AV.frzL_map (id sz : Nat) (xs : List (List D)) : ∀ l, AV.frzL id sz xs l = l.map (AV.frz id sz xs)
  | [] => rfl
  | a :: l => by simp [AV.frzL, AV.frzL_map id sz xs l]
def AObj.frz (id sz : Nat) (xs : List (List D)) : AObj → AObj
  | .var cs => .var (AV.frzL id sz xs cs)
  | .loop fn t ps a b st => .loop fn (AV.frzL id sz xs t) ps a b st
  | o => o
theorem AObj.frz_live (id sz : Nat) (xs : List (List D)) (o : AObj) : (o.frz id sz xs).live = o.live := by cases o <;> rfl

theorem RV.frz {id sz : Nat} {xs : List (List D)} {ty : TypeId} {s : Slot} (hs : Γ[id]? = some s) (hro : RO w F Γ s (.arr ty sz xs)) {av : AV} {v : Value} (h : RV w F Γ av v) :
    RV w (fun b => F b ∨ s.b = some b) Γ (av.frz id sz xs) v := by
  have up : ∀ {av : AV} {v : Value}, RV w F Γ av v → RV w (fun b => F b ∨ s.b = some b) Γ av v := fun h => h.mono (fun _ h => .inl h) (fun _ _ => rfl) (fun _ _ h => h)
  induction h with
  | dead v => exact .dead v
  | d h => exact up (.d h)
  | pvar hs' hb => exact .pvar hs' hb
  | parr hs' hb => simp only [AV.frz]; split; exact .dead _; exact .parr hs' hb
  | pval h hi => exact up (.pval h hi)
  | svalf h => exact up (.svalf h)
  | sfull hs' hA =>
    rename_i i s' A
    simp only [AV.frz]
    split
    · rename_i e
      subst e
      rw [hs] at hs'
      obtain rfl := Option.some.inj hs'
      obtain ⟨k1, k2, k3, k4, k5⟩ := hro
      rw [k2]
      refine .d ?_
      rcases k5 with ⟨k5, k6⟩ | ⟨b, c, k5, k6, k7, k8⟩
      · have : xs = [] := List.eq_nil_of_length_eq_zero (by omega)
        subst this
        exact .slice sz [] A _ (fun _ _ => undef) (by simp) (by simp) (by simp) (fun i x j d h => by simp at h) (fun i x j d h => by simp at h)
      · have hAe := hA b k5
        subst hAe
        refine .slice sz xs _ _ (fun i j => c.getD (i * sz + j) undef) k3 (fun _ => rfl) k4 (fun i x j d h1 h2 => ?_) (fun i x j d h1 h2 => ((k8 i x j d h1 h2).2).mono (fun _ h => .inl h) (fun _ _ => rfl))
        refine ⟨(k8 i x j d h1 h2).1, _, rfl, .inr k5, ?_⟩
        rw [add_plain, cell_of_heap k6]
        have hi := (List.getElem?_eq_some_iff.1 h1).1
        have hj := (List.getElem?_eq_some_iff.1 h2).1
        have hl := k4 x (List.mem_of_getElem? h1)
        have h3 : (i + 1) * sz ≤ s.cap * sz := Nat.mul_le_mul_right _ (by omega)
        rw [Nat.succ_mul] at h3
        simp only [Nat.zero_add]
        exact getD_of (by omega)
    · exact .sfull hs' hA
  | spart hs' hn ha => simp only [AV.frz]; split; exact .dead _; exact .spart hs' hn ha
  | mapo hs' hb => exact .mapo hs' hb
  | func f cs vs hs hr ih =>
    simp only [AV.frz, AV.frzL_map]
    refine .func f _ vs (by simpa using hs) (fun j d hj => ?_)
    rw [List.getElem?_map] at hj
    cases hx : cs[j]? with
    | none => simp [hx] at hj
    | some x => simp [hx] at hj; subst hj; exact ih j x hx
  | yield hs' hb => exact .yield hs' hb
  | iface t d v hr ih => exact .iface t _ v ih
  | agg cs vs hs h1 hr ih =>
    simp only [AV.frz, AV.frzL_map]
    refine .agg _ vs (by simpa using hs) h1 (fun j d hj => ?_)
    rw [List.getElem?_map] at hj
    cases hx : cs[j]? with
    | none => simp [hx] at hj
    | some x => simp [hx] at hj; subst hj; exact ih j x hx
  | tup cs vs hs hr ih =>
    simp only [AV.frz, AV.frzL_map]
    refine .tup _ vs (by simpa using hs) (fun j d hj => ?_)
    rw [List.getElem?_map] at hj
    cases hx : cs[j]? with
    | none => simp [hx] at hj
    | some x => simp [hx] at hj; subst hj; exact ih j x hx

/-- A row that is written no more. -/
theorem Wk.freeze (id : Nat) {ty : TypeId} {sz : Nat} {xs : List (List D)} {t : List AV} {ds : List Nat} (ho : H[id]? = some (.arr ty sz xs)) :
    Wk E n0 t H ds (AV.frzL id sz xs t) ((H.set id .none).map (AObj.frz id sz xs)) ds := fun w F Γ tm df hS hT hD hn => by
  have hlt : id < Γ.length := by rw [hS.len]; exact (List.getElem?_eq_some_iff.1 ho).1
  obtain ⟨s, hs⟩ : ∃ s, Γ[id]? = some s := ⟨_, List.getElem?_eq_getElem hlt⟩
  have hro := hS.obj id s _ hs ho
  have hget : ∀ {i : Nat} {o : AObj}, ((H.set id .none).map (AObj.frz id sz xs))[i]? = some o → o.live = true → ∃ o', i ≠ id ∧ H[i]? = some o' ∧ o = o'.frz id sz xs := fun {i o} h hl => by
    rw [List.getElem?_map] at h
    cases hx : (H.set id .none)[i]? with
    | none => simp [hx] at h
    | some o' =>
      simp [hx] at h
      subst h
      rcases set_get hx with ⟨rfl, rfl, _⟩ | ⟨hne, h2⟩
      · simp [AObj.frz, AObj.live] at hl
      · exact ⟨o', fun e => hne e.symm, h2, rfl⟩
  refine ⟨fun b => F b ∨ s.b = some b, Γ, ⟨by simp [hS.len], ?_, ?_, ?_, ?_, ?_⟩, ⟨by rw [hT.1, AV.frzL_map]; simp, ?_⟩, hD, rfl, rfl, rfl, Nat.le_refl _, fun _ _ _ => rfl, fun _ h => .inl h, ?_, ?_, fun _ _ => rfl, hn⟩
  · intro i s' o h1 h2
    cases hl : o.live with
    | false => cases o <;> simp [AObj.live] at hl; trivial
    | true =>
      obtain ⟨o', hne, h3, rfl⟩ := hget h2 hl
      have := hS.obj i s' o' h1 h3
      have grow : RO w (fun b => F b ∨ s.b = some b) Γ s' o' := this.mono (fun _ h => .inl h) (fun _ _ => rfl) (fun _ _ h => h) (fun _ _ _ => rfl)
      cases o' with
      | none => trivial
      | defr => exact grow
      | map es => exact grow
      | mapb es bs clk => exact grow
      | iter m bs clk idx => exact grow
      | arr ty' sz' ys => exact grow
      | loop fn tt ps assign body st =>
        obtain ⟨b, l, h1, h2, h3, h4, h5, h6, h7, h8, h9⟩ := this
        refine ⟨b, l, h1, h2, h3, h4, h5, h6, h7, by rw [AV.frzL_map]; simpa using h8, fun j av hj => ?_⟩
        rw [AV.frzL_map, List.getElem?_map] at hj
        cases hx : tt[j]? with
        | none => simp [hx] at hj
        | some x => simp [hx] at hj; subst hj; exact (h9 j x hx).frz hs hro
      | var cs =>
        obtain ⟨b, c, ty', g1, g2, g3, g4⟩ := this
        refine ⟨b, c, ty', g1, g2, by rw [AV.frzL_map]; simpa using g3, fun j av hj => ?_⟩
        rw [AV.frzL_map, List.getElem?_map] at hj
        cases hx : cs[j]? with
        | none => simp [hx] at hj
        | some x => simp [hx] at hj; subst hj; exact ⟨(g4 j x hx).1, (g4 j x hx).2.frz hs hro⟩
  · intro i s' o b h1 h2 h3 h4 hF
    obtain ⟨o', hne, h5, rfl⟩ := hget h2 h3
    rw [AObj.frz_live] at h3
    rcases hF with hF | hF
    · exact hS.sep i s' o' b h1 h5 h3 h4 hF
    · exact hne (hS.inj i id s' s o' _ b h1 hs h5 ho h3 rfl h4 hF)
  · intro i j si sj oi oj b h1 h2 h3 h4 h5 h6 h7 h8
    obtain ⟨o1, _, g1, rfl⟩ := hget h3 h5
    obtain ⟨o2, _, g2, rfl⟩ := hget h4 h6
    exact hS.inj i j si sj o1 o2 b h1 h2 g1 g2 (by rw [← AObj.frz_live]; exact h5) (by rw [← AObj.frz_live]; exact h6) h7 h8
  · rintro b (h | h)
    · exact hS.low b h
    · exact live_lt hS ⟨id, s, _, hs, ho, rfl, h⟩
  · intro g sz' ys hg
    exact (hS.glob g sz' ys hg).mono (fun _ h => .inl h) (fun _ _ => rfl) (fun _ _ h => h)
  · intro j av hj
    rw [AV.frzL_map, List.getElem?_map] at hj
    cases hx : t[j]? with
    | none => simp [hx] at hj
    | some x => simp [hx] at hj; subst hj; exact (hT.2 j x hx).frz hs hro
  · rintro b (h | h) _
    · exact .inl h
    · exact .inr ⟨id, s, _, hs, ho, rfl, h⟩
  · rintro b ⟨i, s', o, h1, h2, h3, h4⟩ _
    obtain ⟨o', hne, h5, rfl⟩ := hget h2 h3
    exact ⟨i, s', o', h1, h5, by rw [← AObj.frz_live]; exact h3, h4⟩

/-- nil is an empty row of our own. -/
def nilArr (j : Nat) (t : List AV) (m : Nat) : List AV := t.set j (.sfull m)
theorem Wk.nilarr (j : Nat) (ty : TypeId) (sz : Nat) {t : List AV} {ds : List Nat} (ht : t[j]? = some (.d .nils)) :
    Wk E n0 t H ds (t.set j (.sfull H.length)) (H ++ [.arr ty sz []]) ds := fun w F Γ tm df hS hT hD hn => by
  let s : Slot := ⟨none, sz, 0, 0⟩
  have hS' : SR E w F (Γ ++ [s]) (H ++ [.arr ty sz []]) := hS.push ⟨rfl, rfl, by simp [s], by simp, .inl ⟨rfl, rfl⟩⟩ (fun b hb => by simp [s] at hb)
  have hup : ∀ (id : Nat) s', Γ[id]? = some s' → (Γ ++ [s])[id]? = some s' := pre_push Γ s
  refine ⟨F, Γ ++ [s], hS', ⟨by simp [hT.1], fun k av hk => ?_⟩, hD.mono hup, rfl, rfl, rfl, Nat.le_refl _, fun _ _ _ => rfl, fun _ h => h, fun _ h _ => .inl h, ?_, ?_, by simp; omega⟩
  · rcases set_get hk with ⟨rfl, rfl, _⟩ | ⟨_, h2⟩
    · have h0 := (hT.2 _ _ ht).of_d
      generalize tm.getD j undef = u at h0
      cases h0
      exact .sfull (s := s) (by rw [← hS.len]; exact push_get Γ s) (fun b hb => by simp [s] at hb)
    · exact (hT.2 k av h2).mono (fun _ h => h) (fun _ _ => rfl) hup
  · intro b hb _
    rcases live_push hS.len hb with h | h
    · exact h
    · simp [s] at h
  · intro id hid
    rw [List.getElem?_append_left (by omega)]
end
end Go.Abs
