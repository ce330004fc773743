/-
  Code: sequences, tests, blocks, loops, regions in an open order; and a function's contract out of its body.
-/
import Derived.Test.YtjljjakfebfpfaaDoorAbs8
set_option autoImplicit false
set_option linter.unusedVariables false
set_option linter.unusedSimpArgs false
namespace Go.Abs

def isEff : Op → Bool
  | .alloc _ => true
  | .box _ _ => true
  | .store _ _ _ => true
  | .makeSlice _ _ _ => true
  | .makeMap _ _ => true
  | .mapUpdate _ _ _ _ => true
  | .insert _ _ _ _ => true
  | .range _ _ => true
  | .next _ _ => true
  | .entry _ => true
  | .call c => match c.callee with
    | .builtin .append => true
    | .builtin .delete => true
    | .builtin .clear => true
    | _ => false
  | _ => false
def qpre : List Oper → List Oper
  | [] => []
  | o :: r => match isEff o.op with
    | true => []
    | false => o :: qpre r
def qtail : List Oper → List Oper
  | [] => []
  | o :: r => match isEff o.op with
    | true => o :: r
    | false => qtail r
theorem q_append : ∀ l : List Oper, qpre l ++ qtail l = l
  | [] => rfl
  | o :: r => by
    simp only [qpre, qtail]
    cases isEff o.op with
    | true => rfl
    | false => simp [q_append r]

def setN : Nat → Array Bool → Array Bool
  | 0, l => l
  | k + 1, l => (setN k l).setIfInBounds k true
/-- The order of the text serves for all: the first N operations are apart from one another but where they wait; the others come behind them, in their order. -/
def drawOK (ops : Array Oper) (N : Nat) : Bool :=
  (List.range N).all (fun k => (Region.ready .any ops (setN k (Array.replicate ops.size false))).contains k && Region.free .any ops (setN k (Array.replicate ops.size false)) k) &&
  (List.range (ops.size - N)).all (fun j => Region.ready .any ops (setN (N + j) (Array.replicate ops.size false)) == [N + j]) &&
  (Region.ready .any ops (setN ops.size (Array.replicate ops.size false))).isEmpty &&
  (List.range (ops.size - N)).all (fun j => (List.range N).all fun k => match ops[N + j]? with
    | some o => o.after.any fun e => Region.binds .any e && e.on == k
    | none => false)

def adraw (E : Env) (ops : List Oper) : List Oper → K3 → K3
  | [], K, t, H, ds => K t H ds
  | o :: r, K, t, H, ds => match o.guard with
    | none => qop E o.op (ev E t) H (fun v => adraw E ops r K (putT t o.dst v) H ds)
    | some (j, want) => match gval ops t j with
      | some (d, .d (.bool b)) => Br (b == want)
          (qop E o.op (ev E (t.set d (.d (.bool want)))) H (fun v => adraw E ops r K (putT (t.set d (.d (.bool want))) o.dst v) H ds))
          (adraw E ops r K (putT (t.set d (.d (.bool (!want)))) o.dst udf) H ds)
      | some (_, .d (.tup [])) => adraw E ops r K (putT t o.dst udf) H ds
      | _ => False

section
variable {E : Env} {n0 : Nat} {w : World} {F : Nat → Prop} {Γ : List Slot} {H : List AObj} {ops : Array Oper}

theorem qcallF_det {g : FuncId} {args : List AV} {K : AV → Prop} (h : qcallF E g args H K) : ∃ v, K v ∧ ∀ K' : AV → Prop, K' v → qcallF E g args H K' := by
  unfold qcallF at h ⊢
  cases hx : E.ext g with
  | some f =>
    simp only [hx] at h ⊢
    cases hf : f args with
    | some v => simp only [hf] at h ⊢; exact ⟨v, h, fun _ h' => h'⟩
    | none => simp only [hf] at h
  | none =>
    simp only [hx] at h ⊢
    obtain ⟨v, h1, h2⟩ := h
    exact ⟨v, h2, fun _ h' => ⟨v, h1, h'⟩⟩
theorem qcall_det {c : Call} {ρ : Operand → AV} {K : AV → Prop} (h : qcall E c ρ H K) : ∃ v, K v ∧ ∀ K' : AV → Prop, K' v → qcall E c ρ H K' := by
  obtain ⟨callee, args, ts⟩ := c
  cases callee with
  | value f =>
    unfold qcall at h ⊢
    simp only at h ⊢
    split at h
    · exact qcallF_det h
    · exact qcallF_det h
    · exact h.elim
  | invoke r m => exact h.elim
  | builtin b =>
    by_cases hb : b = .append ∨ b = .delete ∨ b = .clear
    · rcases hb with rfl | rfl | rfl <;> exact h.elim
    · have e1 : ∀ K, qcall E ⟨.builtin b, args, ts⟩ ρ H K = apureCall E ⟨.builtin b, args, ts⟩ ρ H K := fun K => by cases b <;> first | rfl | exact absurd (by simp) hb
      rw [e1] at h
      simp only [e1]
      exact apureCall_det h
theorem qop_det {o : Op} {ρ : Operand → AV} {K : AV → Prop} (h : qop E o ρ H K) : ∃ v, K v ∧ ∀ K' : AV → Prop, K' v → qop E o ρ H K' := by
  cases o
  case alloc => exact h.elim
  case box => exact h.elim
  case store => exact h.elim
  case makeSlice => exact h.elim
  case makeMap => exact h.elim
  case mapUpdate => exact h.elim
  case insert => exact h.elim
  case range => exact h.elim
  case next => exact h.elim
  case entry => exact h.elim
  case buildSlice T n ps => simp only [qop] at h ⊢; exact abuildS_det h
  case call c => simp only [qop] at h ⊢; exact qcall_det h
  all_goals
    simp only [qop] at h ⊢
    exact apure_det h

theorem ya_of_qop {opl : List Oper} {o : Oper} {t : List AV} {K : AV → Prop} (hw : wantA opl o t = some true) (h : qop E o.op (ev E t) H K) : ∃ v, YA E opl H o v t ∧ K v := by
  obtain ⟨v, h1, h2⟩ := qop_det h
  have key : ∀ ρ : Operand → AV, (∀ x ∈ o.op.operands, ev E t x = ρ x) → aop E o.op ρ H (fun r H' => r = v ∧ H' = H) (fun r H' => r = v ∧ H' = H) := fun ρ hρ => by
    have h3 := h2 (fun r => r = v) rfl
    rw [qop_congr hρ] at h3
    obtain ⟨v', rfl, h4⟩ := qop_aop h3
    exact h4
  exact ⟨v, .inl ⟨hw, key _ fun _ _ => rfl, key⟩, h1⟩

theorem set_self_val {t : List AV} {d : Nat} {av : AV} (h : t.getD d .dead = av) (hne : av ≠ .dead) : t.set d av = t := by
  rcases Nat.lt_or_ge d t.length with hlt | hge
  · rw [List.getD_eq_getElem?_getD, List.getElem?_eq_getElem hlt] at h
    apply List.ext_getElem?
    intro k
    by_cases hk : d = k
    · subst hk
      rw [List.getElem?_set_self (by simpa using hlt), List.getElem?_eq_getElem hlt]
      simpa using h.symm
    · rw [List.getElem?_set_ne hk]
  · rw [List.getD_eq_getElem?_getD, List.getElem?_eq_none hge] at h
    exact absurd h.symm hne

theorem gval_getD {opl : List Oper} {t : List AV} {j d : Nat} {av : AV} (h : gval opl t j = some (d, av)) : t.getD d .dead = av := by
  unfold gval at h
  split at h
  · split at h
    · simp at h; obtain ⟨rfl, h⟩ := h; simpa using h
    · simp at h
  · simp at h

theorem adraw_step {opl : List Oper} {o : Oper} {r : List Oper} {K : K3} {t : List AV} {ds : List Nat} (h : adraw E opl (o :: r) K t H ds) : ∃ v, YA E opl H o v t ∧ adraw E opl r K (putT t o.dst v) H ds := by
  simp only [adraw] at h
  cases hg : o.guard with
  | none =>
    rw [hg] at h
    exact ya_of_qop (by simp [wantA, hg]) h
  | some gw =>
    obtain ⟨j, want⟩ := gw
    rw [hg] at h
    simp only at h
    split at h <;> try exact h.elim
    rotate_left
    · rename_i d hgv
      exact ⟨udf, .inr ⟨by simp [wantA, hg, hgv], rfl⟩, h⟩
    rename_i d b hgv
    have hd := gval_getD hgv
    by_cases hb : b = want
    · have e : t.set d (.d (.bool want)) = t := set_self_val (by rw [hd, hb]) (by simp)
      have h1 := h.1 (by simp [hb])
      rw [e] at h1
      exact ya_of_qop (by simp [wantA, hg, hgv, hb]) h1
    · have hb' : (!want) = b := by cases b <;> cases want <;> simp_all
      have e : t.set d (.d (.bool (!want))) = t := set_self_val (by rw [hd, hb']) (by simp)
      have h1 := h.2 (by simpa using hb)
      rw [e] at h1
      exact ⟨udf, .inr ⟨by simp [wantA, hg, hgv, hb], rfl⟩, h1⟩

theorem WA_lex {N : Nat} {K : K3} {ds : List Nat} (hN : N ≤ ops.size)
    (hlex : ∀ k, k < N → k ∈ Region.ready .any ops (setN k (Array.replicate ops.size false)) ∧ Region.free .any ops (setN k (Array.replicate ops.size false)) k = true)
    (hwait : ∀ j oj, N ≤ j → ops[j]? = some oj → ∀ k, k < N → ∃ e ∈ oj.after, Region.binds .any e = true ∧ e.on = k) :
    ∀ (l : List Oper) (k : Nat) (t : List AV), k + l.length = N → (∀ j, j < l.length → l[j]? = ops[k + j]?) → adraw E ops.toList l K t H ds →
      WA E ops H N (setN N (Array.replicate ops.size false)) (fun t' => K t' H ds) l.length (setN k (Array.replicate ops.size false)) t
  | [], k, t, hk, _, h => by
    simp only [List.length_nil, Nat.add_zero] at hk
    subst hk
    exact ⟨rfl, h⟩
  | o :: l, k, t, hk, hl, h => by
    simp only [List.length_cons] at hk
    have h0 : ops[k]? = some o := by have := hl 0 (by simp); simpa using this.symm
    obtain ⟨v, hy, hK⟩ := adraw_step h
    obtain ⟨hr, hf⟩ := hlex k (by omega)
    have hset : ∀ (m j : Nat), j < m → j < ops.size → (setN m (Array.replicate ops.size false)).getD j false = true := by
      intro m
      induction m with
      | zero => intro j hj; omega
      | succ m ih =>
        intro j hj hs
        simp only [setN]
        by_cases hjm : m = j
        · subst hjm
          have hsz : ∀ m, (setN m (Array.replicate ops.size false)).size = ops.size := by
            intro m
            induction m with
            | zero => simp [setN]
            | succ m ih => simp [setN, ih]
          simp [Array.getD_eq_getD_getElem?, hsz m, hs]
        · rw [getD_set_ne_bool hjm]
          exact ih j (by omega) hs
    refine WA_first h0 (by omega) (fun j hj hs => hset N j hj hs) hwait l.length _ t (Region.free_spec h0 hf) hr hy ?_
    exact WA_lex hN hlex hwait l (k + 1) _ (by omega) (fun j hj => by
      have := hl (j + 1) (by simp; omega)
      simpa [Nat.add_assoc, Nat.add_comm 1 j] using this) hK

theorem wanted_of {t : List AV} {a : Act} (hT : RT w F Γ t a.tmps) {o : Oper} {b : Bool} (h : wantA ops.toList o t = some b) : Region.wanted o (yielded ops a.tmps) = b := by
  unfold wantA at h
  unfold Region.wanted
  cases hg : o.guard with
  | none => rw [hg] at h; simpa using h
  | some gw =>
    obtain ⟨j, want⟩ := gw
    rw [hg] at h
    simp only at h ⊢
    split at h <;> try (simp at h; done)
    rotate_left
    · rename_i d hgv
      obtain rfl : false = b := Option.some.inj h
      have hget := gval_getD hgv
      unfold gval at hgv
      cases hoj : ops[j]? with
      | none => simp [hoj] at hgv
      | some oj =>
        cases hdj : oj.dst with
        | none => simp [hoj, hdj] at hgv
        | some d' =>
          simp [hoj, hdj] at hgv
          obtain ⟨rfl, _⟩ := hgv
          have hlt : d' < t.length := by
            rcases Nat.lt_or_ge d' t.length with h | h
            · exact h
            · rw [List.getD_eq_getElem?_getD, List.getElem?_eq_none h] at hget; cases hget
          have hget' : t[d']? = some (.d (.tup [])) := by
            rw [List.getD_eq_getElem?_getD, List.getElem?_eq_getElem hlt] at hget
            rw [List.getElem?_eq_getElem hlt]
            simpa using hget
          have hbv := RD_udf (hT.2 d' _ hget').of_d
          have hsz : d' < a.tmps.size := by rw [hT.1]; exact hlt
          have : a.tmps[d']? = some (.tuple #[]) := by rw [getD_of hsz, hbv]
          unfold yielded
          simp [hoj, hdj, this]
    rename_i d b' hgv
    have hget := gval_getD hgv
    unfold gval at hgv
    cases hoj : ops[j]? with
    | none => simp [hoj] at hgv
    | some oj =>
      cases hdj : oj.dst with
      | none => simp [hoj, hdj] at hgv
      | some d' =>
        simp [hoj, hdj] at hgv
        obtain ⟨rfl, _⟩ := hgv
        have hlt : d' < t.length := by
          rcases Nat.lt_or_ge d' t.length with h | h
          · exact h
          · rw [List.getD_eq_getElem?_getD, List.getElem?_eq_none h] at hget; cases hget
        have hget' : t[d']? = some (.d (.bool b')) := by
          rw [List.getD_eq_getElem?_getD, List.getElem?_eq_getElem hlt] at hget
          rw [List.getElem?_eq_getElem hlt]
          simpa using hget
        have hbv := RD_bool (hT.2 d' _ hget').of_d
        have hsz : d' < a.tmps.size := by rw [hT.1]; exact hlt
        have : a.tmps[d']? = some (.bool b') := by rw [getD_of hsz, hbv]
        unfold yielded
        simp [hoj, hdj, this]
        simpa using h

/-- A quiet operation, carried out. -/
theorem quiet_run (hE : EnvOk E) {ro : Option Nat} {n : Nat} {Q : Exit → Act → World → Prop} {o : Oper} {v : AV} {t : List AV} {ds : List Nat} {a : Act} (hy : YA E ops.toList H o v t) (hR : Rel E w F Γ t H ds a) (hn : n0 ≤ Γ.length)
    {X : Act → World → Prop} (hX : ∀ w' F' Γ' u, Rel E w' F' Γ' (putT t o.dst v) H ds (a.put o.dst u) → Ext n0 w F Γ H w' F' Γ' H → X (a.put o.dst u) w') :
    if Region.wanted o (yielded ops a.tmps) then o.wpIn (Wr ro) n E.P a w X Q else (∀ f, o.about E.P w a.eval = some f → (Wr ro).fn f) ∧ X (a.put o.dst undef) w := by
  rcases hy with ⟨hw, hop, _⟩ | ⟨hw, rfl⟩
  · rw [if_pos (wanted_of hR.rt hw)]
    refine ⟨fun f _ => trivial, ?_⟩
    rw [Oper.semAt_eq _ _ _ (noDefer hop)]
    rcases aop_ok (n0 := n0) hE hR.sr hn hop (ev_ok hR.sr hR.rt) with ⟨u, w', hrun, F', Γ', H', av, hS', hv', ⟨rfl, rfl⟩, hXt, hpre⟩ | ⟨w', hrun, F', Γ', H', av, hS', hv', ⟨rfl, rfl⟩, hXt, hpre⟩ | ⟨g, vs, hrun, hcalls⟩ | ⟨b, fn, tmps, assign, body, hrun, hrounds⟩
    · rw [hrun]
      exact hX w' F' Γ' u ⟨hS', putT_ok (hR.rt.mono hXt.sub (hXt.stay hR.sr) hpre) o.dst hv', by rw [put_defers]; exact hR.dr.mono hpre⟩ hXt
    · rw [hrun]
      exact hX w' F' Γ' undef ⟨hS', putT_ok (hR.rt.mono hXt.sub (hXt.stay hR.sr) hpre) o.dst hv', by rw [put_defers]; exact hR.dr.mono hpre⟩ hXt
    · rw [hrun]
      refine ⟨fun h => by simp [Wr, Fence.wide] at h, Wr_calls (hcalls.mono ?_)⟩
      rintro e w' ⟨u, r', H', F', Γ', rfl, hS', hv', ⟨rfl, rfl⟩, hXt⟩
      have hpre : ∀ (id : Nat) s, Γ[id]? = some s → Γ'[id]? = some s := fun id s hs => by
        rw [hXt.pre id (by rw [← hR.sr.len]; exact (List.getElem?_eq_some_iff.1 hs).1)]; exact hs
      have hX0 : Ext n0 w F Γ H' w' F' Γ' H' := { hXt with pre := fun id hid => hXt.pre id (by rw [← hR.sr.len]; omega), nlen := Nat.le_trans (by rw [← hR.sr.len]; exact hn) hXt.nlen }
      exact hX w' F' Γ' u ⟨hS', putT_ok (hR.rt.mono hXt.sub (hXt.stay hR.sr) hpre) o.dst hv', by rw [put_defers]; exact hR.dr.mono hpre⟩ hX0
    · rw [hrun]
      refine ⟨fun h => by simp [Wr, Fence.wide] at h, Wr_rounds (RoundIn.mono hrounds ?_)⟩
      rintro e w' ⟨u, r', H', F', Γ', rfl, hS', hv', ⟨rfl, rfl⟩, hXt⟩
      have hpre : ∀ (id : Nat) s, Γ[id]? = some s → Γ'[id]? = some s := fun id s hs => by
        rw [hXt.pre id (by rw [← hR.sr.len]; exact (List.getElem?_eq_some_iff.1 hs).1)]; exact hs
      have hX0 : Ext n0 w F Γ H' w' F' Γ' H' := { hXt with pre := fun id hid => hXt.pre id (by rw [← hR.sr.len]; omega), nlen := Nat.le_trans (by rw [← hR.sr.len]; exact hn) hXt.nlen }
      exact hX w' F' Γ' u ⟨hS', putT_ok (hR.rt.mono hXt.sub (hXt.stay hR.sr) hpre) o.dst hv', by rw [put_defers]; exact hR.dr.mono hpre⟩ hX0
  · have hf := wanted_of hR.rt hw
    rw [if_neg (by rw [hf]; simp)]
    exact ⟨fun f _ => trivial, hX w F Γ undef ⟨hR.sr, putT_ok hR.rt o.dst udf_ok, by rw [put_defers]; exact hR.dr⟩ (Ext.refl hn)⟩

theorem WA_ok (hE : EnvOk E) {ro : Option Nat} {n N m : Nat} {LN : Array Bool} {B : List AV → Prop} {Q : Exit → Act → World → Prop} {ds : List Nat} : ∀ (fuel : Nat) (listed : Array Bool) (t : List AV), WA E ops H N LN B fuel listed t →
    ∀ (w : World) (F : Nat → Prop) (Γ : List Slot) (a : Act), Rel E w F Γ t H ds a → n0 ≤ Γ.length →
      (∀ t' w' F' Γ' a', B t' → Rel E w' F' Γ' t' H ds a' → Ext n0 w F Γ H w' F' Γ' H → wpAnyIn (Wr ro) n E.P .any ops Q m LN a' w') →
      wpAnyIn (Wr ro) n E.P .any ops Q (m + fuel) listed a w
  | 0, listed, t, h, w, F, Γ, a, hR, hn, hB => by
    obtain ⟨rfl, h⟩ := h
    exact hB t w F Γ a h hR (Ext.refl hn)
  | fuel + 1, listed, t, h, w, F, Γ, a, hR, hn, hB => by
    refine ⟨fun h0 => absurd h0 h.1, fun i hi => ?_⟩
    obtain ⟨_, o, ho, v, hy, hK⟩ := h.2 i hi
    unfold wpOpIn
    simp only [ho]
    exact quiet_run hE hy hR hn (fun w' F' Γ' u hR' hX => WA_ok hE fuel _ _ hK w' F' Γ' _ hR' hX.nlen fun t2 w2 F2 Γ2 a2 hb hR2 hX2 => hB t2 w2 F2 Γ2 a2 hb hR2 (hX.trans (Nat.le_refl _) hX2))

theorem tail_ok {P : Program} {ro : Option Nat} {n : Nat} {Q : Exit → Act → World → Prop} (h0 : Region.ready .any ops (setN ops.size (Array.replicate ops.size false)) = []) :
    ∀ (l : List Oper) (k : Nat), k + l.length = ops.size → (∀ j, j < l.length → l[j]? = ops[k + j]?) → (∀ j, k ≤ j → j < ops.size → Region.ready .any ops (setN j (Array.replicate ops.size false)) = [j]) →
      ∀ a w, wpListIn (Wr ro) n P ops Q l a w → wpAnyIn (Wr ro) n P .any ops Q l.length (setN k (Array.replicate ops.size false)) a w
  | [], k, hk, _, _, a, w, h => by
    simp only [List.length_nil, Nat.add_zero] at hk
    subst hk
    exact ⟨h0, h⟩
  | o :: l, k, hk, hl, hr, a, w, h => by
    simp only [List.length_cons] at hk
    have hk0 : ops[k]? = some o := by have := hl 0 (by simp); simpa using this.symm
    have hrk := hr k (Nat.le_refl _) (by omega)
    refine ⟨fun h => (by rw [hrk] at h; cases h), fun i hi => ?_⟩
    rw [hrk] at hi
    obtain rfl := List.mem_singleton.1 hi
    have next : ∀ a w, wpListIn (Wr ro) n P ops Q l a w → wpAnyIn (Wr ro) n P .any ops Q l.length (setN (i + 1) (Array.replicate ops.size false)) a w :=
      tail_ok h0 l (i + 1) (by omega) (fun j hj => by
        have := hl (j + 1) (by simp; omega)
        simpa [Nat.add_assoc, Nat.add_comm 1 j] using this) (fun j hj => hr j (by omega))
    unfold wpOpIn
    simp only [hk0]
    unfold wpListIn at h
    split at h
    · rename_i hw
      rw [if_pos hw]
      exact Oper.wpIn_mono next h
    · rename_i hw
      rw [if_neg hw]
      exact ⟨h.1, next _ _ h.2⟩

theorem sr_drew (hS : SR E w F Γ H) : SR E { w with drawn := w.drawn + 1 } F Γ H := hS.world (Nat.le_refl _) (fun _ _ => rfl)
theorem ext_drew (hn : n0 ≤ Γ.length) : Ext n0 w F Γ H { w with drawn := w.drawn + 1 } F Γ H :=
  ⟨rfl, rfl, rfl, Nat.le_refl _, fun _ _ _ => rfl, fun _ h => h, fun _ h _ => .inl h, fun _ h _ => h, fun _ _ => rfl, hn⟩

theorem draw_ok (hE : EnvOk E) {ro : Option Nat} {n id : Nat} {Q : Exit → Act → World → Prop} {K : K3} {t : List AV} {ds : List Nat} {a : Act} (hB : drawOK ops (qpre ops.toList).length = true)
    (h : adraw E ops.toList (qpre ops.toList) (areg E n0 ops.toList (qtail ops.toList) K) t H ds) (hR : Rel E w F Γ t H ds a) (hn : n0 ≤ Γ.length)
    (hQ : ∀ a' w', Lat E n0 w F Γ H K a' w' → Q .normal a' w') : (Code.region id ops true).wpIn (Wr ro) n E.P Q a w := by
  unfold drawOK at hB
  simp only [Bool.and_eq_true, List.all_eq_true, List.mem_range, beq_iff_eq, List.isEmpty_iff] at hB
  obtain ⟨⟨⟨b1, b2⟩, b3⟩, b4⟩ := hB
  have happ := q_append ops.toList
  have hlen : (qpre ops.toList).length + (qtail ops.toList).length = ops.size := by
    rw [← List.length_append, happ]; simp
  have hpre : ∀ j, j < (qpre ops.toList).length → (qpre ops.toList)[j]? = ops[0 + j]? := fun j hj => by
    have e : ops.toList[j]? = (qpre ops.toList ++ qtail ops.toList)[j]? := by rw [happ]
    rw [Nat.zero_add, ← Array.getElem?_toList, e, List.getElem?_append_left hj]
  have htail : ∀ j, j < (qtail ops.toList).length → (qtail ops.toList)[j]? = ops[(qpre ops.toList).length + j]? := fun j hj => by
    have e : ops.toList[(qpre ops.toList).length + j]? = (qpre ops.toList ++ qtail ops.toList)[(qpre ops.toList).length + j]? := by rw [happ]
    rw [← Array.getElem?_toList, e, List.getElem?_append_right (by omega)]
    congr 1; omega
  have hR1 : Rel E { w with drawn := w.drawn + 1 } F Γ t H ds a := ⟨sr_drew hR.sr, @RT.mono w { w with drawn := w.drawn + 1 } F F Γ Γ (fun _ h => h) (fun _ _ => rfl) (fun _ _ h => h) t a.tmps hR.rt, hR.dr⟩
  refine wpIn_region_any hE.mixed ?_
  have hWA := WA_lex (E := E) (H := H) (ds := ds) (N := (qpre ops.toList).length) (ops := ops) (by omega)
    (fun k hk => by
      obtain ⟨h1, h2⟩ := b1 k hk
      exact ⟨by simpa using h1, h2⟩)
    (fun j oj hj hoj k hk => by
      have hjs := (Array.getElem?_eq_some_iff.1 hoj).1
      have := b4 (j - (qpre ops.toList).length) (by omega) k hk
      rw [show (qpre ops.toList).length + (j - (qpre ops.toList).length) = j by omega, hoj] at this
      simp only [Array.any_eq_true] at this
      obtain ⟨i, hi, hb⟩ := this
      simp only [Bool.and_eq_true, beq_iff_eq] at hb
      exact ⟨_, Array.getElem_mem hi, hb⟩)
    (qpre ops.toList) 0 t (by simp) hpre h
  have := WA_ok (n0 := n0) (m := (qtail ops.toList).length) (Q := Q) (ro := ro) (n := n) hE _ _ _ hWA _ F Γ a hR1 hn (fun t' w' F' Γ' a' hb hR' hX' => by
    refine tail_ok b3 (qtail ops.toList) (qpre ops.toList).length hlen htail (fun j hj hjs => ?_) a' w' ?_
    · have := b2 (j - (qpre ops.toList).length) (by omega)
      rwa [show (qpre ops.toList).length + (j - (qpre ops.toList).length) = j by omega] at this
    · have hareg := areg_ok (ro := ro) (n := n) hE ops.toList K (qtail ops.toList) t' H ds hb w' F' Γ' a' hR' hX'.nlen Q
        (fun a2 w2 ⟨F2, Γ2, t2, H2, ds2, hR2, hX2, hK⟩ => hQ a2 w2 ⟨F2, Γ2, t2, H2, ds2, hR2, ((ext_drew hn).trans (Nat.le_refl _) hX').trans (Nat.le_refl _) hX2, hK⟩)
      simpa using hareg)
  have e : (qtail ops.toList).length + (qpre ops.toList).length = ops.size := by omega
  rw [e] at this
  simpa [setN] using this
end
end Go.Abs
