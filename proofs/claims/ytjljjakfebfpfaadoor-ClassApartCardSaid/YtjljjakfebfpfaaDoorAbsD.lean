/-
  Regions whose order is open, where quiet operations may come behind operations that write: what is quiet yields the same before and behind.
-/
import Derived.Test.YtjljjakfebfpfaaDoorAbs9
set_option autoImplicit false
set_option linter.unusedVariables false
set_option linter.unusedSimpArgs false
namespace Go.Abs

def isCallOp : Op → Bool
  | .call c => match c.callee with
    | .builtin _ => false
    | _ => true
  | _ => false
def linked (ops : Array Oper) (k i : Nat) : Bool := match ops[k]? with
  | some o => o.after.any fun e => Region.binds .any e && e.on == i
  | none => false
/-- The quiet operations that wait for none but such. -/
def earlyB (ops : Array Oper) : Nat → List Bool
  | 0 => []
  | n + 1 => earlyB ops n ++ [match ops[n]? with
    | some o => !isEff o.op && !isCallOp o.op && o.after.all (fun e => !Region.binds .any e || (earlyB ops n).getD e.on false)
    | none => false]
def eB (ops : Array Oper) (i : Nat) : Bool := (earlyB ops ops.size).getD i false
def eL (ops : Array Oper) : List Nat := (List.range ops.size).filter fun i => eB ops i
def tL (ops : Array Oper) : List Nat := (List.range ops.size).filter fun i => !eB ops i
def opsAt (ops : Array Oper) (l : List Nat) : List Oper := l.filterMap fun i => ops[i]?
def chained (ops : Array Oper) : List Nat → Bool
  | j :: k :: r => linked ops k j && chained ops (k :: r)
  | _ => true
def draw2 (ops : Array Oper) : Bool :=
  chained ops (tL ops) &&
  (List.range ops.size).all fun i => match ops[i]? with
    | none => false
    | some o => o.after.all (fun e => !Region.binds .any e || (decide (e.on < i) && (!eB ops i || eB ops e.on))) &&
      (List.range ops.size).all fun k => match ops[k]? with
        | none => true
        | some o' => i == k || ((o.dst.isNone || o.dst != o'.dst) && (!eB ops i || linked ops i k || linked ops k i || o.apart ops o'))

/-- The quiet operations, one after the other. -/
def Steps (E : Env) (opl : List Oper) (H : List AObj) : List Oper → List AV → List AV → Prop
  | [], t, tq => tq = t
  | o :: r, t, tq => ∃ v, YA E opl H o v t ∧ Steps E opl H r (putT t o.dst v) tq
def atail (E : Env) (opl el : List Oper) (t0 tq : List AV) : List Oper → K3 → K3
  | [], K, t, H, ds => K t H ds
  | o :: r, K, t, H, ds => match o.guard with
    | none => aop E o.op (ev E t) H (fun v H' => adraw E opl el (fun t' _ _ => t' = tq) t0 H' ds ∧ atail E opl el t0 tq r K (putT t o.dst v) H' ds)
        (fun v H' => adraw E opl el (fun t' _ _ => t' = tq) t0 H' ds ∧ atail E opl el t0 tq r K (putT t o.dst v) H' ds)
    | some (j, want) => match gval opl t j with
      | some (_, .d (.bool b)) => Br (b == want)
          (aop E o.op (ev E t) H (fun v H' => adraw E opl el (fun t' _ _ => t' = tq) t0 H' ds ∧ atail E opl el t0 tq r K (putT t o.dst v) H' ds)
            (fun v H' => adraw E opl el (fun t' _ _ => t' = tq) t0 H' ds ∧ atail E opl el t0 tq r K (putT t o.dst v) H' ds))
          (atail E opl el t0 tq r K (putT t o.dst udf) H ds)
      | some (_, .d (.tup [])) => atail E opl el t0 tq r K (putT t o.dst udf) H ds
      | _ => False

section
variable {E : Env} {n0 : Nat} {w : World} {F : Nat → Prop} {Γ : List Slot} {H : List AObj} {ops : Array Oper}

theorem putT_length (t : List AV) (d : Option Tmp) (v : AV) : (putT t d v).length = t.length := by cases d <;> simp [putT]
theorem putT_ne {t : List AV} {d : Option Tmp} {v : AV} {s : Nat} (h : d ≠ some s) : (putT t d v)[s]? = t[s]? := by
  cases d with
  | none => rfl
  | some d => exact List.getElem?_set_ne (fun e => h (by rw [e]))
theorem putT_self {t : List AV} {d : Nat} {v : AV} (h : d < t.length) : (putT t (some d) v)[d]? = some v := by simp [putT, h]

theorem adraw_steps {opl : List Oper} : ∀ {l : List Oper} {K : K3} {t : List AV} {ds : List Nat}, adraw E opl l K t H ds → ∃ tq, Steps E opl H l t tq ∧ K tq H ds
  | [], K, t, ds, h => ⟨t, rfl, h⟩
  | o :: r, K, t, ds, h => by
    obtain ⟨v, hy, h⟩ := adraw_step h
    obtain ⟨tq, h1, h2⟩ := adraw_steps h
    exact ⟨tq, ⟨v, hy, h1⟩, h2⟩

theorem Steps.end {opl : List Oper} : ∀ {l : List Oper} {t tq : List AV}, Steps E opl H l t tq → tq.length = t.length ∧ ∀ s : Nat, (∀ o ∈ l, o.dst ≠ some s) → tq[s]? = t[s]?
  | [], t, tq, h => by obtain rfl := h; exact ⟨rfl, fun _ _ => rfl⟩
  | o :: r, t, tq, ⟨v, _, h⟩ => by
    obtain ⟨h1, h2⟩ := h.end
    exact ⟨by rw [h1, putT_length], fun s hs => (h2 s fun o' ho' => hs o' (by simp [ho'])).trans (putT_ne (hs o (by simp)))⟩

theorem Steps.at {opl : List Oper} : ∀ {l : List Oper} {t tq : List AV}, Steps E opl H l t tq → l.Pairwise (fun x y => ∀ d, x.dst = some d → y.dst ≠ some d) → ∀ (p : Nat) (o : Oper), l[p]? = some o →
    ∃ v ti, YA E opl H o v ti ∧ ti.length = t.length ∧ (∀ s : Nat, (∀ (q : Nat) o', q < p → l[q]? = some o' → o'.dst ≠ some s) → ti[s]? = t[s]?) ∧
      (∀ (q : Nat) o' s, q < p → l[q]? = some o' → o'.dst = some s → ti[s]? = tq[s]?) ∧ (∀ d, o.dst = some d → d < t.length → tq[d]? = some v)
  | [], t, tq, h, hp, p, o, ho => by simp at ho
  | o0 :: r, t, tq, ⟨v0, hy0, h⟩, hp, p, o, ho => by
    obtain ⟨hp0, hpr⟩ := List.pairwise_cons.1 hp
    have hend := h.end
    cases p with
    | zero =>
      simp at ho
      subst ho
      refine ⟨v0, t, hy0, rfl, fun _ _ => rfl, fun q o' s hq => absurd hq (by omega), fun d hd hlt => ?_⟩
      rw [hend.2 d (fun o' ho' => hp0 o' ho' d hd), hd]
      exact putT_self hlt
    | succ p =>
      obtain ⟨v, ti, k1, k2, k3, k4, k5⟩ := h.at hpr p o (by simpa using ho)
      refine ⟨v, ti, k1, by rw [k2, putT_length], fun s hs => ?_, fun q o' s hq ho' hs => ?_, fun d hd hlt => k5 d hd (by rw [putT_length]; exact hlt)⟩
      · rw [k3 s (fun q o' hq ho' => hs (q + 1) o' (by omega) (by simpa using ho'))]
        exact putT_ne (hs 0 o0 (by omega) rfl)
      · cases q with
        | zero =>
          simp at ho'
          subst ho'
          have hr : ∀ o' ∈ r, o'.dst ≠ some s := fun o' ho' => hp0 o' ho' s hs
          rw [k3 s (fun q o' hq ho' => hr o' (List.mem_of_getElem? ho')), hend.2 s hr]
        | succ q => exact k4 q o' s (by omega) (by simpa using ho') hs

theorem aop_congr {o : Op} {ρ ρ' : Operand → AV} {K KW : AV → List AObj → Prop} (h : ∀ x ∈ o.operands, ρ x = ρ' x) : aop E o ρ H K KW = aop E o ρ' H K KW := by
  cases o <;> simp only [Op.operands] at h
  case call c =>
    obtain ⟨callee, args, ts⟩ := c
    have ha : args.toList.map ρ = args.toList.map ρ' := List.map_congr_left fun x hx => h x (by simp [Call.operands]; right; simpa using hx)
    have hm : ∀ x ∈ args.toList, ρ x = ρ' x := fun x hx => h x (by simp [Call.operands]; right; simpa using hx)
    cases callee with
    | value f =>
      have hf : ρ f = ρ' f := h f (by simp [Call.operands])
      simp only [aop, acall, hf, ha]
    | invoke r m => rfl
    | builtin b =>
      have key : ∀ K, apureCall E ⟨.builtin b, args, ts⟩ ρ H K = apureCall E ⟨.builtin b, args, ts⟩ ρ' H K := fun K => by
        unfold apureCall
        cases b <;> try rfl
        case max => simp only [ha]
        case min => simp only [ha]
        simp only
        cases hargs : args.toList with
        | nil => rfl
        | cons x xs =>
          cases ts.toList with
          | nil => rfl
          | cons T Ts => simp only [hm x (by rw [hargs]; simp)]
      cases b <;> simp only [aop, acall]
      case append =>
        cases hargs : args.toList with
        | nil => rfl
        | cons x xs => cases xs with
          | nil => rfl
          | cons y ys =>
            have h1 := hm x (by rw [hargs]; simp)
            have h2 := hm y (by rw [hargs]; simp)
            rcases ys with _ | ⟨z, zs⟩ <;> rcases ts.toList with _ | ⟨T, _ | ⟨T', _ | ⟨T'', Ts⟩⟩⟩ <;> first | rfl | simp only [h1, h2]
      case delete =>
        cases hargs : args.toList with
        | nil => rfl
        | cons x xs => cases xs with
          | nil => rfl
          | cons y ys =>
            have h1 := hm x (by rw [hargs]; simp)
            have h2 := hm y (by rw [hargs]; simp)
            rcases ys with _ | ⟨z, zs⟩ <;> rcases ts.toList with _ | ⟨T, _ | ⟨T', _ | ⟨T'', Ts⟩⟩⟩ <;> first | rfl | simp only [h1, h2]
      case clear =>
        cases hargs : args.toList with
        | nil => rfl
        | cons x xs =>
          have h1 := hm x (by rw [hargs]; simp)
          rcases xs with _ | ⟨z, zs⟩ <;> rcases ts.toList with _ | ⟨T, _ | ⟨T', Ts⟩⟩ <;> first | rfl | simp only [h1]
      all_goals exact key _
  case buildSlice T n ps => simp only [aop]; rw [mapPair_congr ps.toList (fun x hx => h x (by simpa using hx))]
  case build T ps => simp only [aop, apure]; rw [mapPair_congr ps.toList (fun x hx => h x (by simpa using hx))]
  case makeFunc fn first caps =>
    cases fn <;> simp only [aop, apure]
    rw [List.map_congr_left (l := caps.toList) fun x hx => h x (by simp; right; simpa using hx)]
  case makeMap T r => cases r <;> simp_all [aop]
  case slice t x lo hi mx => cases lo <;> cases hi <;> cases mx <;> simp_all [aop, apure]
  all_goals first | rfl | (simp only [aop, apure]; done) | (simp only [aop, apure]; first | rfl | (simp_all; done))

/-- One operation of any kind, carried out. -/
theorem op_run (hE : EnvOk E) {ro : Option Nat} {n : Nat} {Q : Exit → Act → World → Prop} {o : Oper} {t : List AV} {ds : List Nat} {a : Act} {K : AV → List AObj → Prop} (hR : Rel E w F Γ t H ds a) (hn : n0 ≤ Γ.length)
    (h : aop E o.op (ev E t) H K K) {X : Act → World → Prop} (hX : ∀ v H' w' F' Γ' u, K v H' → Rel E w' F' Γ' (putT t o.dst v) H' ds (a.put o.dst u) → Ext n0 w F Γ H w' F' Γ' H' → X (a.put o.dst u) w') :
    o.wpIn (Wr ro) n E.P a w X Q := by
  refine ⟨fun f _ => trivial, ?_⟩
  rw [Oper.semAt_eq _ _ _ (noDefer h)]
  have call : ∀ {e : Ending} {w' : World}, (∃ v r H' F' Γ', e = .returned v ∧ SR E w' F' Γ' H' ∧ RV w' F' Γ' r v ∧ K r H' ∧ Ext H.length w F Γ H w' F' Γ' H') → ∃ v, e = .returned v ∧ X (a.put o.dst v) w' := by
    rintro e w' ⟨v, r', H', F', Γ', rfl, hS', hv', hK, hXt⟩
    have hpre : ∀ (id : Nat) s, Γ[id]? = some s → Γ'[id]? = some s := fun id s hs => by
      rw [hXt.pre id (by rw [← hR.sr.len]; exact (List.getElem?_eq_some_iff.1 hs).1)]; exact hs
    have hX0 : Ext n0 w F Γ H w' F' Γ' H' := { hXt with pre := fun id hid => hXt.pre id (by rw [← hR.sr.len]; omega), nlen := Nat.le_trans (by rw [← hR.sr.len]; exact hn) hXt.nlen }
    exact ⟨v, rfl, hX r' H' w' F' Γ' v hK ⟨hS', putT_ok (hR.rt.mono hXt.sub (hXt.stay hR.sr) hpre) o.dst hv', by rw [put_defers]; exact hR.dr.mono hpre⟩ hX0⟩
  rcases aop_ok (n0 := n0) hE hR.sr hn h (ev_ok hR.sr hR.rt) with ⟨u, w', hrun, F', Γ', H', av, hS', hv', hK, hXt, hpre⟩ | ⟨w', hrun, F', Γ', H', av, hS', hv', hK, hXt, hpre⟩ | ⟨g, vs, hrun, hcalls⟩ | ⟨b, fn, tmps, assign, body, hrun, hrounds⟩
  · rw [hrun]
    exact hX av H' w' F' Γ' u hK ⟨hS', putT_ok (hR.rt.mono hXt.sub (hXt.stay hR.sr) hpre) o.dst hv', by rw [put_defers]; exact hR.dr.mono hpre⟩ hXt
  · rw [hrun]
    exact hX av H' w' F' Γ' undef hK ⟨hS', putT_ok (hR.rt.mono hXt.sub (hXt.stay hR.sr) hpre) o.dst hv', by rw [put_defers]; exact hR.dr.mono hpre⟩ hXt
  · rw [hrun]
    refine ⟨fun h => by simp [Wr, Fence.wide] at h, Wr_calls (hcalls.mono ?_)⟩
    intro e w' he
    obtain ⟨v, rfl, hx⟩ := call he
    exact hx
  · rw [hrun]
    refine ⟨fun h => by simp [Wr, Fence.wide] at h, Wr_rounds (RoundIn.mono hrounds ?_)⟩
    intro e w' he
    obtain ⟨v, rfl, hx⟩ := call he
    exact hx

theorem linked_iff {k i : Nat} : linked ops k i = true ↔ ∃ o, ops[k]? = some o ∧ ∃ e ∈ o.after, Region.binds .any e = true ∧ e.on = i := by
  unfold linked
  cases h : ops[k]? with
  | none => simp
  | some o =>
    simp only [Option.some.injEq, exists_eq_left']
    rw [Array.any_eq_true']
    constructor
    · rintro ⟨e, he, hb⟩
      simp at hb
      exact ⟨e, he, hb.1, hb.2⟩
    · rintro ⟨e, he, h1, h2⟩
      exact ⟨e, he, by simp [h1, h2]⟩

structure D2 (ops : Array Oper) : Prop where
  chain : ∀ (p : Nat) j k, (tL ops)[p]? = some j → (tL ops)[p + 1]? = some k → linked ops k j = true
  back : ∀ i k, linked ops i k = true → k < i ∧ (eB ops i = true → eB ops k = true)
  dst : ∀ (i k : Nat) (o o' : Oper) d, i ≠ k → ops[i]? = some o → ops[k]? = some o' → o.dst = some d → o'.dst ≠ some d
  apt : ∀ (i k : Nat) (o o' : Oper), i ≠ k → ops[i]? = some o → ops[k]? = some o' → eB ops i = true → linked ops i k = true ∨ linked ops k i = true ∨ o.apart ops o' = true

theorem chained_get : ∀ {l : List Nat}, chained ops l = true → ∀ (p : Nat) j k, l[p]? = some j → l[p + 1]? = some k → linked ops k j = true
  | [], _, p, j, k, h, _ => by simp at h
  | [a], _, p, j, k, h, h' => by simp at h'
  | a :: b :: r, hc, p, j, k, h, h' => by
    simp only [chained, Bool.and_eq_true] at hc
    cases p with
    | zero => simp at h h'; subst h h'; exact hc.1
    | succ p => exact chained_get hc.2 p j k (by simpa using h) (by simpa using h')

theorem d2_of (h : draw2 ops = true) : D2 ops := by
  unfold draw2 at h
  simp only [Bool.and_eq_true, List.all_eq_true, List.mem_range] at h
  obtain ⟨hc, hall⟩ := h
  have each : ∀ (i : Nat) o, ops[i]? = some o → (∀ e ∈ o.after, Region.binds .any e = true → e.on < i ∧ (eB ops i = true → eB ops e.on = true)) ∧
      ∀ (k : Nat) o', ops[k]? = some o' → i ≠ k → (∀ d, o.dst = some d → o'.dst ≠ some d) ∧ (eB ops i = true → linked ops i k = true ∨ linked ops k i = true ∨ o.apart ops o' = true) := fun i o ho => by
    have hi : i < ops.size := (Array.getElem?_eq_some_iff.1 ho).1
    have := hall i hi
    rw [ho] at this
    simp only [Bool.and_eq_true, List.all_eq_true, List.mem_range] at this
    obtain ⟨h1, h2⟩ := this
    refine ⟨fun e he hb => ?_, fun k o' hk hne => ?_⟩
    · have := (Array.all_eq_true_iff_forall_mem.1 h1) e he
      simp only [hb, Bool.not_true, Bool.false_or, Bool.and_eq_true, decide_eq_true_eq, Bool.or_eq_true, Bool.not_eq_true'] at this
      refine ⟨this.1, fun hE => ?_⟩
      rcases this.2 with h | h
      · rw [hE] at h; cases h
      · exact h
    · have hk' : k < ops.size := (Array.getElem?_eq_some_iff.1 hk).1
      have := h2 k hk'
      rw [hk] at this
      simp only [Bool.or_eq_true, beq_iff_eq, Bool.and_eq_true, Bool.not_eq_true', bne_iff_ne, Option.isNone_iff_eq_none] at this
      rcases this with h | ⟨h3, h4⟩
      · exact absurd h hne
      · refine ⟨fun d hd hd' => ?_, fun hE => ?_⟩
        · rcases h3 with h3 | h3
          · rw [hd] at h3; cases h3
          · exact h3 (by rw [hd, hd'])
        · rcases h4 with ((h4 | h4) | h4) | h4
          · rw [hE] at h4; cases h4
          · exact .inl h4
          · exact .inr (.inl h4)
          · exact .inr (.inr h4)
  refine ⟨chained_get hc, fun i k hl => ?_, fun i k o o' d hne h1 h2 h3 => ((each i o h1).2 k o' h2 hne).1 d h3, fun i k o o' hne h1 h2 h3 => ((each i o h1).2 k o' h2 hne).2 h3⟩
  obtain ⟨o, ho, e, he, hb, rfl⟩ := linked_iff.1 hl
  exact (each i o ho).1 e he hb

theorem wantA_agree {o : Oper} {t t' : List AV} (h : ∀ d ∈ o.looksAt ops, t[d]? = t'[d]?) : wantA ops.toList o t = wantA ops.toList o t' := by
  unfold wantA
  cases hg : o.guard with
  | none => rfl
  | some gw =>
    obtain ⟨j, want⟩ := gw
    have : gval ops.toList t j = gval ops.toList t' j := by
      unfold gval
      cases hj : ops.toList[j]? with
      | none => rfl
      | some oj =>
        cases hd : oj.dst with
        | none => simp [hd]
        | some d =>
          have hm : d ∈ o.looksAt ops := by
            rw [Array.getElem?_toList] at hj
            simp [Oper.looksAt, hg, hj, hd]
          simp only [hd, List.getD_eq_getElem?_getD, h d hm]
    simp only [this]
theorem ev_agree {o : Oper} {t t' : List AV} (h : ∀ d ∈ o.looksAt ops, t[d]? = t'[d]?) : ∀ x ∈ o.op.operands, ev E t x = ev E t' x := fun x hx => by
  cases x with
  | tmp d =>
    have hm : d ∈ o.looksAt ops := List.mem_append_left _ (List.mem_filterMap.2 ⟨.tmp d, by simpa using hx, rfl⟩)
    simp only [ev, List.getD_eq_getElem?_getD, h d hm]
  | const v => rfl
  | global g => rfl
  | func f => rfl
theorem YA.agree {o : Oper} {v : AV} {t t' : List AV} (h : ∀ d ∈ o.looksAt ops, t[d]? = t'[d]?) (hy : YA E ops.toList H o v t) : YA E ops.toList H o v t' := by
  rcases hy with ⟨h1, h2, h3⟩ | ⟨h1, h2⟩
  · have e := ev_agree (E := E) h
    exact .inl ⟨by rw [← wantA_agree h]; exact h1, h3 _ e, fun ρ hρ => h3 ρ fun x hx => (e x hx).trans (hρ x hx)⟩
  · exact .inr ⟨by rw [← wantA_agree h]; exact h1, h2⟩

theorem mem_eL {i : Nat} : i ∈ eL ops ↔ i < ops.size ∧ eB ops i = true := by simp [eL]
theorem mem_tL {i : Nat} : i ∈ tL ops ↔ i < ops.size ∧ eB ops i = false := by simp [tL]
theorem tL_sorted : (tL ops).Pairwise (· < ·) := List.pairwise_lt_range.filter _
theorem eL_sorted : (eL ops).Pairwise (· < ·) := List.pairwise_lt_range.filter _

theorem opsAt_get : ∀ {l : List Nat}, (∀ i ∈ l, i < ops.size) → (opsAt ops l).length = l.length ∧ ∀ (p : Nat) i, l[p]? = some i → (opsAt ops l)[p]? = ops[i]?
  | [], _ => ⟨rfl, fun p i h => by simp at h⟩
  | a :: l, h => by
    obtain ⟨h1, h2⟩ := opsAt_get (l := l) (fun i hi => h i (by simp [hi]))
    have hlt : a < ops.size := h a (by simp)
    have ha : ops[a]? = some ops[a] := Array.getElem?_eq_getElem hlt
    have e : opsAt ops (a :: l) = ops[a] :: opsAt ops l := by simp [opsAt, ha]
    rw [e]
    refine ⟨by simp [h1], fun p i hp => ?_⟩
    cases p with
    | zero => simp at hp; subst hp; simp [ha]
    | succ p => simpa using h2 p i (by simpa using hp)

/-- The early operations' values, by place. -/
structure Early (E : Env) (ops : Array Oper) (H : List AObj) (t0 tq : List AV) : Prop where
  len : tq.length = t0.length
  rest : ∀ s : Nat, (∀ (i : Nat) o, ops[i]? = some o → eB ops i = true → o.dst ≠ some s) → tq[s]? = t0[s]?
  at_ : ∀ (i : Nat) o, ops[i]? = some o → eB ops i = true → ∃ v ti, YA E ops.toList H o v ti ∧ (∀ s : Nat, (∀ (k : Nat) o', k < i → ops[k]? = some o' → eB ops k = true → o'.dst ≠ some s) → ti[s]? = t0[s]?) ∧
    (∀ (k : Nat) o' s, k < i → ops[k]? = some o' → eB ops k = true → o'.dst = some s → ti[s]? = tq[s]?) ∧ (∀ d, o.dst = some d → d < t0.length → tq[d]? = some v)

theorem early_of (hD : D2 ops) {t0 tq : List AV} (h : Steps E ops.toList H (opsAt ops (eL ops)) t0 tq) : Early E ops H t0 tq := by
  have hin : ∀ i ∈ eL ops, i < ops.size := fun i hi => (mem_eL.1 hi).1
  obtain ⟨hlen, hget⟩ := opsAt_get hin
  have place : ∀ (i : Nat) o, ops[i]? = some o → eB ops i = true → ∃ p, (eL ops)[p]? = some i ∧ (opsAt ops (eL ops))[p]? = some o := fun i o ho hE => by
    have hm : i ∈ eL ops := mem_eL.2 ⟨(Array.getElem?_eq_some_iff.1 ho).1, hE⟩
    obtain ⟨p, hp⟩ := List.mem_iff_getElem?.1 hm
    exact ⟨p, hp, by rw [hget p i hp]; exact ho⟩
  have back : ∀ (p : Nat) o, (opsAt ops (eL ops))[p]? = some o → ∃ i, (eL ops)[p]? = some i ∧ ops[i]? = some o ∧ eB ops i = true := fun p o ho => by
    have hlt : p < (eL ops).length := by rw [← hlen]; exact (List.getElem?_eq_some_iff.1 ho).1
    have hp : (eL ops)[p]? = some (eL ops)[p] := List.getElem?_eq_getElem hlt
    exact ⟨_, hp, by rw [← hget p _ hp]; exact ho, (mem_eL.1 (List.getElem_mem hlt)).2⟩
  have lt_iff : ∀ {p q i k : Nat}, (eL ops)[p]? = some i → (eL ops)[q]? = some k → (q < p ↔ k < i) := fun {p q i k} hp hq => by
    obtain ⟨hp1, rfl⟩ := List.getElem?_eq_some_iff.1 hp
    obtain ⟨hq1, rfl⟩ := List.getElem?_eq_some_iff.1 hq
    have hs := List.pairwise_iff_getElem.1 (eL_sorted (ops := ops))
    constructor
    · exact fun h => hs q p hq1 hp1 h
    · intro h
      rcases Nat.lt_trichotomy q p with h' | h' | h'
      · exact h'
      · subst h'; exact absurd h (Nat.lt_irrefl _)
      · have := hs p q hp1 hq1 h'; omega
  have hpw : (opsAt ops (eL ops)).Pairwise (fun x y => ∀ d, x.dst = some d → y.dst ≠ some d) := by
    rw [List.pairwise_iff_getElem]
    intro p q hp hq hpq d hd
    obtain ⟨i, hi, hio, _⟩ := back p _ (List.getElem?_eq_getElem hp)
    obtain ⟨k, hk, hko, _⟩ := back q _ (List.getElem?_eq_getElem hq)
    have hne : i ≠ k := by
      have := (lt_iff hk hi).1 hpq
      omega
    exact hD.dst i k _ _ d hne hio hko hd
  have hend := h.end
  refine ⟨hend.1, fun s hs => hend.2 s fun o ho => ?_, fun i o ho hE => ?_⟩
  · obtain ⟨p, hp⟩ := List.mem_iff_getElem?.1 ho
    obtain ⟨i, _, hio, hE⟩ := back p o hp
    exact hs i o hio hE
  · obtain ⟨p, hp, hpo⟩ := place i o ho hE
    obtain ⟨v, ti, k1, k2, k3, k4, k5⟩ := h.at hpw p o hpo
    refine ⟨v, ti, k1, fun s hs => k3 s fun q o' hq ho' => ?_, fun k o' s hk hko hkE hs => ?_, k5⟩
    · obtain ⟨k, hk, hko, hkE⟩ := back q o' ho'
      exact hs k o' ((lt_iff hp hk).1 hq) hko hkE
    · obtain ⟨q, hq, hqo⟩ := place k o' hko hkE
      exact k4 q o' s ((lt_iff hp hq).2 hk) hqo hs

theorem count_set {p q : Nat → Bool} {i : Nat} : ∀ {l : List Nat}, i ∈ l → p i = true → q i = false → (∀ j, q j = true → p j = true) → l.countP q < l.countP p
  | [], h, _, _, _ => by simp at h
  | a :: l, h, hp, hq, hs => by
    have le : ∀ l : List Nat, l.countP q ≤ l.countP p := fun l => List.countP_mono_left fun j _ => hs j
    rw [List.countP_cons, List.countP_cons]
    rcases List.mem_cons.1 h with rfl | h
    · have := le l
      simp [hp, hq]; omega
    · have := count_set h hp hq hs
      by_cases hqa : q a = true
      · simp [hqa, hs a hqa]; omega
      · simp [hqa]
        split <;> omega

def isL (listed : Array Bool) (k : Nat) : Prop := listed.getD k false = true
theorem isL_set {listed : Array Bool} {i k : Nat} (hi : i < listed.size) : isL (listed.setIfInBounds i true) k ↔ k = i ∨ isL listed k := by
  unfold isL
  by_cases h : i = k
  · subst h; simp [Array.getD_eq_getD_getElem?, hi]
  · rw [getD_set_ne_bool h]
    constructor
    · exact fun h' => .inr h'
    · rintro (rfl | h')
      · exact absurd rfl h
      · exact h'

theorem draw2_run (hE : EnvOk E) (hD : D2 ops) {ro : Option Nat} {n : Nat} {Q : Exit → Act → World → Prop} {K : K3} {t0 tq : List AV} {ds : List Nat} :
    ∀ (fuel : Nat) (listed : Array Bool) (m : Nat) (tS tc : List AV) (H : List AObj), listed.size = ops.size → (List.range ops.size).countP (fun k => !listed.getD k false) ≤ fuel →
      (∀ (p : Nat) k, (tL ops)[p]? = some k → (isL listed k ↔ p < m)) → tS.length = t0.length → tc.length = t0.length →
      (∀ s : Nat, (∀ (k : Nat) o, ops[k]? = some o → isL listed k → o.dst ≠ some s) → tS[s]? = t0[s]?) →
      (∀ (k : Nat) o s, ops[k]? = some o → eB ops k = true → isL listed k → o.dst = some s → tS[s]? = tq[s]?) →
      (∀ s : Nat, (∀ (k : Nat) o, ops[k]? = some o → eB ops k = true → ¬ isL listed k → o.dst ≠ some s) → tc[s]? = tS[s]?) →
      (∀ k i, isL listed k → linked ops k i = true → isL listed i) →
      (∀ (k : Nat) o s, ops[k]? = some o → eB ops k = true → o.dst = some s → tc[s]? = tq[s]?) →
      Early E ops H t0 tq → atail E ops.toList (opsAt ops (eL ops)) t0 tq (opsAt ops ((tL ops).drop m)) K tc H ds →
      ∀ (w : World) (F : Nat → Prop) (Γ : List Slot) (a : Act), Rel E w F Γ tS H ds a → n0 ≤ Γ.length → (∀ a' w', Lat E n0 w F Γ H K a' w' → Q .normal a' w') →
        wpAnyIn (Wr ro) n E.P .any ops Q fuel listed a w := by
  have getF : ∀ {listed : Array Bool}, listed.size = ops.size → ∀ {k : Nat}, k < ops.size → listed.getD k true = listed.getD k false := fun {listed} hs {k} hk => by
    simp [Array.getD_eq_getD_getElem?, hs ▸ hk]
  intro fuel
  induction fuel with
  | zero =>
    intro listed m tS tc H A1 A0 A2 A3 A3' A4 A5 A6 A7 A8 hEar hC w F Γ a hR hn hQ
    have all : ∀ k, k < ops.size → isL listed k := fun k hk => by
      have h0 : (List.range ops.size).countP (fun k => !listed.getD k false) = 0 := by omega
      have := List.countP_eq_zero.1 h0 k (List.mem_range.2 hk)
      simpa [isL] using this
    refine ⟨?_, ?_⟩
    · rw [List.eq_nil_iff_forall_not_mem]
      intro j hj
      obtain ⟨hun, o, ho, _⟩ := mem_ready.1 hj
      have hlt := (Array.getElem?_eq_some_iff.1 ho).1
      rw [getF A1 hlt] at hun
      have := all j hlt
      unfold isL at this
      rw [this] at hun; cases hun
    · have hm : (tL ops).drop m = [] := by
        rw [List.drop_eq_nil_iff]
        rcases Nat.lt_or_ge m (tL ops).length with h | h
        · have hp : (tL ops)[m]? = some (tL ops)[m] := List.getElem?_eq_getElem h
          exact absurd ((A2 m _ hp).1 (all _ (mem_tL.1 (List.getElem_mem h)).1)) (Nat.lt_irrefl _)
        · exact h
      rw [hm] at hC
      have e : tc = tS := List.ext_getElem? fun s => A6 s fun k o hk _ hnl => absurd (all k (Array.getElem?_eq_some_iff.1 hk).1) hnl
      subst e
      exact hQ a w ⟨F, Γ, tc, H, ds, hR, Ext.refl hn, hC⟩
  | succ fuel ih =>
    intro listed m tS tc H A1 A0 A2 A3 A3' A4 A5 A6 A7 A8 hEar hC w F Γ a hR hn hQ
    refine ⟨fun hnil => ?_, fun i hi => ?_⟩
    · have all : ∀ k, k < ops.size → isL listed k := by
        intro k
        induction k using Nat.strongRecOn with
        | _ k ihk =>
          intro hk
          by_cases hl : isL listed k
          · exact hl
          · exfalso
            have ho : ops[k]? = some ops[k] := Array.getElem?_eq_getElem hk
            have hm : k ∈ Region.ready .any ops listed := by
              rw [mem_ready]
              refine ⟨?_, ops[k], ho, fun e he hb => ?_⟩
              · rw [getF A1 hk]
                unfold isL at hl
                simpa using hl
              · have hlk : linked ops k e.on = true := linked_iff.2 ⟨_, ho, e, he, hb, rfl⟩
                have hlt := (hD.back k e.on hlk).1
                exact ihk e.on hlt (by omega)
            rw [hnil] at hm
            cases hm
      have hm : (tL ops).drop m = [] := by
        rw [List.drop_eq_nil_iff]
        rcases Nat.lt_or_ge m (tL ops).length with h | h
        · have hp : (tL ops)[m]? = some (tL ops)[m] := List.getElem?_eq_getElem h
          exact absurd ((A2 m _ hp).1 (all _ (mem_tL.1 (List.getElem_mem h)).1)) (Nat.lt_irrefl _)
        · exact h
      rw [hm] at hC
      have e : tc = tS := List.ext_getElem? fun s => A6 s fun k o hk _ hnl => absurd (all k (Array.getElem?_eq_some_iff.1 hk).1) hnl
      subst e
      exact hQ a w ⟨F, Γ, tc, H, ds, hR, Ext.refl hn, hC⟩
    · obtain ⟨hun, o, ho, hdeps⟩ := mem_ready.1 hi
      have hlt : i < ops.size := (Array.getElem?_eq_some_iff.1 ho).1
      rw [getF A1 hlt] at hun
      have hnl : ¬ isL listed i := fun h => by unfold isL at h; rw [h] at hun; cases hun
      have deps : ∀ k, linked ops i k = true → isL listed k := fun k hk => by
        obtain ⟨o', ho', e, he, hb, rfl⟩ := linked_iff.1 hk
        rw [ho] at ho'
        obtain rfl := Option.some.inj ho'
        exact hdeps e he hb
      have hsetL : ∀ {k : Nat}, isL (listed.setIfInBounds i true) k ↔ k = i ∨ isL listed k := fun {k} => isL_set (by omega)
      have B1 : (listed.setIfInBounds i true).size = ops.size := by simp [A1]
      have B0 : (List.range ops.size).countP (fun k => !(listed.setIfInBounds i true).getD k false) ≤ fuel := by
        have := count_set (p := fun k => !listed.getD k false) (q := fun k => !(listed.setIfInBounds i true).getD k false) (i := i) (List.mem_range.2 hlt) (by simp [hun])
          (by have := (hsetL (k := i)).2 (.inl rfl); unfold isL at this; simp [this]) (fun j hj => by
            by_cases hjl : isL listed j
            · have := (hsetL (k := j)).2 (.inr hjl)
              unfold isL at this
              simp [this] at hj
            · unfold isL at hjl; simpa using hjl)
        omega
      have B7 : ∀ k j, isL (listed.setIfInBounds i true) k → linked ops k j = true → isL (listed.setIfInBounds i true) j := fun k j hk hl => by
        rcases hsetL.1 hk with rfl | hk
        · exact hsetL.2 (.inr (deps j hl))
        · exact hsetL.2 (.inr (A7 k j hk hl))
      have B4 : ∀ v, ∀ s : Nat, (∀ (k : Nat) o, ops[k]? = some o → isL (listed.setIfInBounds i true) k → o.dst ≠ some s) → (putT tS o.dst v)[s]? = t0[s]? := fun v s hs => by
        rw [putT_ne (hs i o ho (hsetL.2 (.inl rfl)))]
        exact A4 s fun k o' hk hl => hs k o' hk (hsetL.2 (.inr hl))
      unfold wpOpIn
      simp only [ho]
      cases hEi : eB ops i with
      | true =>
        obtain ⟨v, ti, y, r1, r2, r3⟩ := hEar.at_ i o ho hEi
        have agree : ∀ d ∈ o.looksAt ops, ti[d]? = tS[d]? := fun d hd => by
          by_cases hex : ∃ (k : Nat) (o' : Oper), ops[k]? = some o' ∧ o'.dst = some d
          · obtain ⟨k, o', hk, hdk⟩ := hex
            have only : ∀ (k' : Nat) o'', ops[k']? = some o'' → o''.dst = some d → k' = k := fun k' o'' hk' hd' => by
              by_cases hne : k' = k
              · exact hne
              · exact absurd hdk (hD.dst k' k o'' o' d hne hk' hk hd')
            by_cases hki : k = i
            · subst hki
              rw [r1 d (fun k' o'' hlt' hk' _ hd' => by have := only k' o'' hk' hd'; omega), A4 d (fun k' o'' hk' hl hd' => hnl (by rw [← only k' o'' hk' hd']; exact hl))]
            · rcases hD.apt i k o o' (Ne.symm hki) ho hk hEi with hl | hl | hap
              · obtain ⟨hki', hEk⟩ := hD.back i k hl
                rw [r2 k o' d hki' hk (hEk hEi) hdk, A5 k o' d hk (hEk hEi) (deps k hl) hdk]
              · have hik := (hD.back k i hl).1
                have hknl : ¬ isL listed k := fun h => hnl (A7 k i h hl)
                rw [r1 d (fun k' o'' hlt' hk' _ hd' => by have := only k' o'' hk' hd'; omega), A4 d (fun k' o'' hk' hl' hd' => hknl (by rw [← only k' o'' hk' hd']; exact hl'))]
              · exact absurd hd ((Oper.apart_spec hap).2.2 d hdk)
          · rw [r1 d (fun k' o'' _ hk' _ hd' => hex ⟨k', o'', hk', hd'⟩), A4 d (fun k' o'' hk' _ hd' => hex ⟨k', o'', hk', hd'⟩)]
        refine quiet_run hE (y.agree agree) hR hn (fun w' F' Γ' u hR' hX => ih _ m _ tc H B1 B0 (fun p k hp => ?_) (by rw [putT_length]; exact A3) A3' (B4 v) (fun k o' s hk hEk hl hs => ?_) (fun s hs => ?_) B7 A8 hEar hC w' F' Γ' _ hR' hX.nlen
          (fun a' w'' ⟨F2, Γ2, t2, H2, ds2, hR2, hX2, hK⟩ => hQ a' w'' ⟨F2, Γ2, t2, H2, ds2, hR2, hX.trans (Nat.le_refl _) hX2, hK⟩))
        · rw [hsetL, ← A2 p k hp]
          have hEk := (mem_tL.1 (List.mem_of_getElem? hp)).2
          constructor
          · rintro (rfl | h)
            · rw [hEi] at hEk; cases hEk
            · exact h
          · exact fun h => .inr h
        · by_cases hki : k = i
          · subst hki
            rw [ho] at hk
            obtain rfl := Option.some.inj hk
            rw [hs]
            rcases Nat.lt_or_ge s t0.length with hsl | hsl
            · rw [putT_self (by omega), r3 s hs hsl]
            · rw [List.getElem?_eq_none (by rw [putT_length]; omega), List.getElem?_eq_none (by rw [hEar.len]; omega)]
          · rw [putT_ne (fun h => hD.dst i k o o' s (Ne.symm hki) ho hk h hs)]
            rcases hsetL.1 hl with h | h
            · exact absurd h hki
            · exact A5 k o' s hk hEk h hs
        · by_cases hos : o.dst = some s
          · rw [A8 i o s ho hEi hos, hos]
            rcases Nat.lt_or_ge s t0.length with hsl | hsl
            · rw [putT_self (by omega), r3 s hos hsl]
            · rw [List.getElem?_eq_none (l := putT _ _ _) (by rw [putT_length]; omega), List.getElem?_eq_none (by rw [hEar.len]; omega)]
          · rw [putT_ne hos]
            refine A6 s fun k o' hk hEk hl => ?_
            by_cases hki : k = i
            · subst hki
              rw [ho] at hk
              obtain rfl := Option.some.inj hk
              exact hos
            · exact hs k o' hk hEk fun h => by
                rcases hsetL.1 h with h | h
                · exact hki h
                · exact hl h
      | false =>
        obtain ⟨p, hp⟩ := List.mem_iff_getElem?.1 (mem_tL.2 ⟨hlt, hEi⟩)
        have hpm : p = m := by
          rcases Nat.lt_trichotomy p m with h | h | h
          · exact absurd ((A2 p i hp).2 h) hnl
          · exact h
          · exfalso
            have hpl : p < (tL ops).length := (List.getElem?_eq_some_iff.1 hp).1
            have hq : (tL ops)[p - 1]? = some ((tL ops)[p - 1]'(by omega)) := List.getElem?_eq_getElem (by omega)
            have hl := hD.chain (p - 1) _ i hq (by rw [show p - 1 + 1 = p by omega]; exact hp)
            have := (A2 (p - 1) _ hq).1 (deps _ hl)
            omega
        subst hpm
        have hdrop : (tL ops).drop p = i :: (tL ops).drop (p + 1) := by
          obtain ⟨h1, h2⟩ := List.getElem?_eq_some_iff.1 hp
          rw [List.drop_eq_getElem_cons h1, h2]
        have hops : opsAt ops ((tL ops).drop p) = o :: opsAt ops ((tL ops).drop (p + 1)) := by rw [hdrop]; simp [opsAt, ho]
        rw [hops] at hC
        have agree : ∀ d ∈ o.looksAt ops, tc[d]? = tS[d]? := fun d hd => A6 d fun k o' hk hEk hl hdk => by
          have hki : k ≠ i := fun e => by subst e; rw [hEi] at hEk; cases hEk
          rcases hD.apt k i o' o hki hk ho hEk with h | h | h
          · have := (hD.back k i h).2 hEk; rw [hEi] at this; cases this
          · exact hl (deps k h)
          · exact (Oper.apart_spec h).1 d hdk hd
        -- behind the operation
        have next : ∀ (v : AV) (H' : List AObj) (w' : World) (F' : Nat → Prop) (Γ' : List Slot) (a' : Act), Early E ops H' t0 tq → atail E ops.toList (opsAt ops (eL ops)) t0 tq (opsAt ops ((tL ops).drop (p + 1))) K (putT tc o.dst v) H' ds →
            Rel E w' F' Γ' (putT tS o.dst v) H' ds a' → Ext n0 w F Γ H w' F' Γ' H' → wpAnyIn (Wr ro) n E.P .any ops Q fuel (listed.setIfInBounds i true) a' w' := fun v H' w' F' Γ' a' hEar' hC' hR' hX =>
          ih _ (p + 1) _ (putT tc o.dst v) H' B1 B0 (fun q k hq => by
            rw [hsetL, A2 q k hq]
            constructor
            · rintro (rfl | h)
              · obtain ⟨h1, h2⟩ := List.getElem?_eq_some_iff.1 hp
                obtain ⟨h3, h4⟩ := List.getElem?_eq_some_iff.1 hq
                have hs := List.pairwise_iff_getElem.1 (tL_sorted (ops := ops))
                rcases Nat.lt_trichotomy q p with h | h | h
                · omega
                · omega
                · have := hs p q h1 h3 h; omega
              · omega
            · intro h
              rcases Nat.lt_or_ge q p with h' | h'
              · exact .inr h'
              · have : q = p := by omega
                subst this
                rw [hp] at hq
                exact .inl (Option.some.inj hq).symm)
            (by rw [putT_length]; exact A3) (by rw [putT_length]; exact A3') (B4 v)
            (fun k o' s hk hEk hl hs => by
              have hki : k ≠ i := fun e => by subst e; rw [hEi] at hEk; cases hEk
              rw [putT_ne (fun h => hD.dst i k o o' s (Ne.symm hki) ho hk h hs)]
              rcases hsetL.1 hl with h | h
              · exact absurd h hki
              · exact A5 k o' s hk hEk h hs)
            (fun s hs => by
              by_cases hos : o.dst = some s
              · rw [hos]
                rcases Nat.lt_or_ge s t0.length with hsl | hsl
                · rw [putT_self (by omega), putT_self (by omega)]
                · rw [List.getElem?_eq_none (by rw [putT_length]; omega), List.getElem?_eq_none (by rw [putT_length]; omega)]
              · rw [putT_ne hos, putT_ne hos]
                refine A6 s fun k o' hk hEk hl => hs k o' hk hEk fun h => ?_
                rcases hsetL.1 h with h | h
                · subst h; rw [hEi] at hEk; cases hEk
                · exact hl h)
            B7 (fun k o' s hk hEk hs => by
              have hki : k ≠ i := fun e => by subst e; rw [hEi] at hEk; cases hEk
              rw [putT_ne (fun h => hD.dst i k o o' s (Ne.symm hki) ho hk h hs)]
              exact A8 k o' s hk hEk hs)
            hEar' hC' w' F' Γ' a' hR' hX.nlen (fun a'' w'' ⟨F2, Γ2, t2, H2, ds2, hR2, hX2, hK⟩ => hQ a'' w'' ⟨F2, Γ2, t2, H2, ds2, hR2, hX.trans (Nat.le_refl _) hX2, hK⟩)
        have go : aop E o.op (ev E tc) H (fun v H' => adraw E ops.toList (opsAt ops (eL ops)) (fun t' _ _ => t' = tq) t0 H' ds ∧ atail E ops.toList (opsAt ops (eL ops)) t0 tq (opsAt ops ((tL ops).drop (p + 1))) K (putT tc o.dst v) H' ds)
            (fun v H' => adraw E ops.toList (opsAt ops (eL ops)) (fun t' _ _ => t' = tq) t0 H' ds ∧ atail E ops.toList (opsAt ops (eL ops)) t0 tq (opsAt ops ((tL ops).drop (p + 1))) K (putT tc o.dst v) H' ds) →
            o.wpIn (Wr ro) n E.P a w (wpAnyIn (Wr ro) n E.P .any ops Q fuel (listed.setIfInBounds i true)) Q := fun h => by
          rw [aop_congr (ev_agree agree)] at h
          refine op_run hE hR hn h fun v H' w' F' Γ' u ⟨hre, hrest⟩ hR' hX => ?_
          obtain ⟨tq', hst, rfl⟩ := adraw_steps hre
          exact next v H' w' F' Γ' _ (early_of hD hst) hrest hR' hX
        unfold atail at hC
        cases hg : o.guard with
        | none =>
          rw [hg] at hC
          rw [if_pos (by simp [Region.wanted, hg])]
          exact go hC
        | some gw =>
          obtain ⟨j, want⟩ := gw
          rw [hg] at hC
          simp only at hC
          split at hC <;> try exact hC.elim
          rotate_left
          · rename_i d hgv
            have hwA : wantA ops.toList o tS = some false := by
              rw [← wantA_agree agree]
              simp [wantA, hg, hgv]
            rw [if_neg (by rw [wanted_of hR.rt hwA]; simp)]
            refine ⟨fun f _ => trivial, ?_⟩
            exact next udf H w F Γ _ hEar hC ⟨hR.sr, putT_ok hR.rt o.dst udf_ok, by rw [put_defers]; exact hR.dr⟩ (Ext.refl hn)
          rename_i d b hgv
          have hwA : wantA ops.toList o tS = some (b == want) := by
            rw [← wantA_agree agree]
            simp [wantA, hg, hgv]
          have hwd := wanted_of hR.rt hwA
          by_cases hb : (b == want) = true
          · rw [if_pos (by rw [hwd]; exact hb)]
            exact go (hC.1 hb)
          · rw [if_neg (by rw [hwd]; exact hb)]
            refine ⟨fun f _ => trivial, ?_⟩
            exact next udf H w F Γ _ hEar (hC.2 (by simpa using hb)) ⟨hR.sr, putT_ok hR.rt o.dst udf_ok, by rw [put_defers]; exact hR.dr⟩ (Ext.refl hn)

theorem draw2_ok (hE : EnvOk E) {ro : Option Nat} {n id : Nat} {Q : Exit → Act → World → Prop} {K : K3} {t : List AV} {ds : List Nat} {a : Act} (hB : draw2 ops = true)
    (h : adraw E ops.toList (opsAt ops (eL ops)) (fun tq H ds => atail E ops.toList (opsAt ops (eL ops)) t tq (opsAt ops (tL ops)) K tq H ds) t H ds) (hR : Rel E w F Γ t H ds a) (hn : n0 ≤ Γ.length)
    (hQ : ∀ a' w', Lat E n0 w F Γ H K a' w' → Q .normal a' w') : (Code.region id ops true).wpIn (Wr ro) n E.P Q a w := by
  have hD := d2_of hB
  obtain ⟨tq, hst, hC⟩ := adraw_steps h
  have hEar := early_of hD hst
  have hR1 : Rel E { w with drawn := w.drawn + 1 } F Γ t H ds a := ⟨sr_drew hR.sr, @RT.mono w { w with drawn := w.drawn + 1 } F F Γ Γ (fun _ h => h) (fun _ _ => rfl) (fun _ _ h => h) t a.tmps hR.rt, hR.dr⟩
  refine wpIn_region_any hE.mixed ?_
  have hnone : ∀ k, ¬ isL (Array.replicate ops.size false) k := fun k h => by
    unfold isL at h
    rw [Array.getD_eq_getD_getElem?, Array.getElem?_replicate] at h
    split at h <;> simp at h
  refine draw2_run (n0 := n0) (t0 := t) (tq := tq) (K := K) hE hD ops.size _ 0 t tq H (by simp) ?_ (fun p k _ => ⟨fun h => absurd h (hnone k), fun h => absurd h (by omega)⟩) rfl hEar.len (fun s _ => rfl)
    (fun k o s _ _ hl _ => absurd hl (hnone k)) (fun s hs => hEar.rest s fun k o hk hEk => hs k o hk hEk (hnone k)) (fun k i hl _ => absurd hl (hnone k)) (fun k o s _ _ _ => rfl) hEar (by simpa using hC) _ F Γ a hR1 hn
    (fun a' w' ⟨F2, Γ2, t2, H2, ds2, hR2, hX2, hK⟩ => hQ a' w' ⟨F2, Γ2, t2, H2, ds2, hR2, (ext_drew hn).trans (Nat.le_refl _) hX2, hK⟩)
  have := List.countP_le_length (p := fun k => !(Array.replicate ops.size false).getD k false) (l := List.range ops.size)
  simpa using this
end
end Go.Abs
