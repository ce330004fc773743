/-
  Regions whose order is open: where all but the last operations change nothing that is owned, one walk in the order of the text serves every order.
-/
import Derived.Test.YtjljjakfebfpfaaDoorAbs7
import Derived.Still
set_option autoImplicit false
set_option linter.unusedVariables false
set_option linter.unusedSimpArgs false
namespace Go.Abs

/-! ### One value, whatever is asked of it -/
section det
variable {E : Env} {H : List AObj} {K : AV → Prop}

theorem rdRow_det {T : TypeId} {sz : Nat} {xs : List (List D)} {i k : Nat} : rdRow E T sz xs i k K → ∃ v, K v ∧ ∀ K' : AV → Prop, K' v → rdRow E T sz xs i k K' := by
  unfold rdRow
  split
  · exact fun ⟨a, b, h⟩ => ⟨_, h, fun _ h' => ⟨a, b, h'⟩⟩
  · exact fun ⟨a, b, h⟩ => ⟨_, h, fun _ h' => ⟨a, b, h'⟩⟩
  · exact fun h => h.elim
theorem aload_det {T : TypeId} {x : AV} : aload E T H K x → ∃ v, K v ∧ ∀ K' : AV → Prop, K' v → aload E T H K' x := by
  unfold aload
  repeat' split
  all_goals first
    | exact fun h => h.elim
    | exact fun h => rdRow_det h
    | exact fun h => ⟨_, h, fun _ h' => h'⟩
    | exact fun ⟨a, h⟩ => ⟨_, h, fun _ h' => ⟨a, h'⟩⟩
theorem aint_det {op : BinOp} {k k' : IntKind} {a b : Int} : aint op k a k' b K → ∃ v, K v ∧ ∀ K' : AV → Prop, K' v → aint op k a k' b K' := by
  unfold aint
  split
  all_goals first
    | exact fun ⟨a, b, h⟩ => ⟨_, h, fun _ h' => ⟨a, b, h'⟩⟩
    | exact fun ⟨a, h⟩ => ⟨_, h, fun _ h' => ⟨a, h'⟩⟩
theorem bEq_det {op : BinOp} {r : Bool} : bEq op r K → ∃ v, K v ∧ ∀ K' : AV → Prop, K' v → bEq op r K' := by
  unfold bEq
  split
  all_goals first
    | exact fun h => ⟨_, h, fun _ h' => h'⟩
    | exact fun h => h.elim
theorem abin_det {op : BinOp} {T : TypeId} {c : Bool} {x y : AV} : abin E op T c x y K → ∃ v, K v ∧ ∀ K' : AV → Prop, K' v → abin E op T c x y K' := by
  unfold abin
  split
  · exact aint_det
  · split
    · exact bEq_det
    · exact fun h => h.elim
  · unfold astr
    split
    all_goals first
      | exact fun h => h.elim
      | exact fun ⟨a, h⟩ => ⟨_, h, fun _ h' => ⟨a, h'⟩⟩
      | exact fun h => ⟨_, h, fun _ h' => h'⟩
  · unfold acmp
    repeat' split
    all_goals first
      | exact fun h => h.elim
      | exact bEq_det
      | exact fun ⟨a, b, h⟩ => let ⟨v, h1, h2⟩ := bEq_det h; ⟨v, h1, fun _ h' => ⟨a, b, h2 _ h'⟩⟩
      | exact fun ⟨a, h⟩ => let ⟨v, h1, h2⟩ := bEq_det h; ⟨v, h1, fun _ h' => ⟨a, h2 _ h'⟩⟩
theorem aun_det {op : UnOp} {x : AV} : aun op x K → ∃ v, K v ∧ ∀ K' : AV → Prop, K' v → aun op x K' := by
  unfold aun
  split
  all_goals first
    | exact fun h => ⟨_, h, fun _ h' => h'⟩
    | exact fun h => h.elim
theorem aconv_det {s d : TypeId} {x : AV} : aconv E s d x K → ∃ v, K v ∧ ∀ K' : AV → Prop, K' v → aconv E s d x K' := by
  unfold aconv
  split
  all_goals first
    | exact fun h => ⟨_, h, fun _ h' => h'⟩
    | exact fun h => h.elim
theorem anil_det {x : AV} : anil x K → ∃ v, K v ∧ ∀ K' : AV → Prop, K' v → anil x K' := by
  unfold anil
  split
  all_goals first
    | exact fun h => ⟨_, h, fun _ h' => h'⟩
    | exact fun h => h.elim
theorem rowPtr_det {sz : Nat} {x : AV} {n : Int} : rowPtr H sz x n K → ∃ v, K v ∧ ∀ K' : AV → Prop, K' v → rowPtr H sz x n K' := by
  unfold rowPtr
  repeat' split
  all_goals first
    | exact fun h => h.elim
    | exact fun ⟨a, b, c, d, h⟩ => ⟨_, h, fun _ h' => ⟨a, b, c, d, h'⟩⟩
    | exact fun ⟨a, b, c, h⟩ => ⟨_, h, fun _ h' => ⟨a, b, c, h'⟩⟩
theorem aidx_det {T : TypeId} {x i : AV} : aidx E T H x i K → ∃ v, K v ∧ ∀ K' : AV → Prop, K' v → aidx E T H x i K' := by
  unfold aidx
  repeat' split
  all_goals first
    | exact fun h => h.elim
    | exact rowPtr_det
    | exact fun ⟨a, b, h⟩ => ⟨_, h, fun _ h' => ⟨a, b, h'⟩⟩
    | exact fun ⟨a, b, h⟩ => h.elim
theorem afldAddr_det {T : TypeId} {x : AV} {f : Nat} : afldAddr E T x f K → ∃ v, K v ∧ ∀ K' : AV → Prop, K' v → afldAddr E T x f K' := by
  unfold afldAddr
  repeat' split
  all_goals first
    | exact fun h => h.elim
    | exact fun ⟨a, h⟩ => h.elim
    | exact fun ⟨a, h⟩ => ⟨_, h, fun _ h' => ⟨a, h'⟩⟩
theorem apart_det {t : TypeId} {cs : List AV} {off : Nat} : apart E t cs off K → ∃ v, K v ∧ ∀ K' : AV → Prop, K' v → apart E t cs off K' := by
  unfold apart
  repeat' split
  all_goals first
    | exact fun h => h.elim
    | exact fun h => ⟨_, h, fun _ h' => h'⟩
    | exact fun ⟨a, h⟩ => ⟨_, h, fun _ h' => ⟨a, h'⟩⟩
theorem afld_det {T : TypeId} {x : AV} {f : Nat} : afld E T x f K → ∃ v, K v ∧ ∀ K' : AV → Prop, K' v → afld E T x f K' := by
  unfold afld
  repeat' split
  all_goals first
    | exact fun h => h.elim
    | exact apart_det
theorem aext_det {x : AV} {i : Nat} : aext x i K → ∃ v, K v ∧ ∀ K' : AV → Prop, K' v → aext x i K' := by
  unfold aext
  repeat' split
  all_goals first
    | exact fun h => h.elim
    | exact fun h => ⟨_, h, fun _ h' => h'⟩
theorem aslice_det {T : TypeId} {x : AV} {lo hi mx : Option AV} : aslice E T H x lo hi mx K → ∃ v, K v ∧ ∀ K' : AV → Prop, K' v → aslice E T H x lo hi mx K' := by
  unfold aslice
  repeat' split
  all_goals first
    | exact fun h => h.elim
    | exact fun ⟨a, b, c, d, e, h⟩ => ⟨_, h, fun _ h' => ⟨a, b, c, d, e, h'⟩⟩
    | exact fun ⟨a, b, c, d, h⟩ => ⟨_, h, fun _ h' => ⟨a, b, c, d, h'⟩⟩
    | exact fun ⟨a, b, c, h⟩ => ⟨_, h, fun _ h' => ⟨a, b, c, h'⟩⟩
    | exact fun ⟨a, b, h⟩ => ⟨_, h, fun _ h' => ⟨a, b, h'⟩⟩
theorem alen_det {T : TypeId} {x : AV} : alen E T H x K → ∃ v, K v ∧ ∀ K' : AV → Prop, K' v → alen E T H x K' := by
  unfold alen
  repeat' split
  all_goals first
    | exact fun h => h.elim
    | exact fun h => ⟨_, h, fun _ h' => h'⟩
theorem abuild_det {T : TypeId} {ps : List (Nat × AV)} : abuild E T ps K → ∃ v, K v ∧ ∀ K' : AV → Prop, K' v → abuild E T ps K' := by
  unfold abuild
  repeat' split
  all_goals first
    | exact fun h => h.elim
    | exact fun h => ⟨_, h, fun _ h' => h'⟩
theorem alook_det {T : TypeId} {x k : AV} {ok : Bool} : alook E T H x k ok K → ∃ v, K v ∧ ∀ K' : AV → Prop, K' v → alook E T H x k ok K' := by
  unfold alook
  repeat' split
  all_goals first
    | exact fun h => h.elim
    | exact fun h => h.2.elim
    | exact fun ⟨a, b, h⟩ => ⟨_, h, fun _ h' => ⟨a, b, h'⟩⟩
    | exact fun ⟨a, h⟩ => ⟨_, h, fun _ h' => ⟨a, h'⟩⟩
theorem apureCall_det {c : Call} {ρ : Operand → AV} : apureCall E c ρ H K → ∃ v, K v ∧ ∀ K' : AV → Prop, K' v → apureCall E c ρ H K' := by
  unfold apureCall
  repeat' split
  all_goals first
    | exact fun h => h.elim
    | exact alen_det
    | exact fun h => ⟨_, h, fun _ h' => h'⟩
theorem apure_det {o : Op} {ρ : Operand → AV} : apure E o ρ H K → ∃ v, K v ∧ ∀ K' : AV → Prop, K' v → apure E o ρ H K' := by
  unfold apure
  split
  · exact fun h => ⟨_, h, fun _ h' => h'⟩
  · exact fun h => ⟨_, h, fun _ h' => h'⟩
  · split
    · rename_i p _
      cases p with
      | true => simp only [Br_true]; exact fun h => ⟨_, h, fun _ h' => h'⟩
      | false => simp only [Br_false]; exact fun h => ⟨_, h, fun _ h' => h'⟩
    · exact fun h => h.elim
  · exact aload_det
  · exact anil_det
  · exact abin_det
  · exact aun_det
  · exact aconv_det
  · repeat' split
    all_goals first
      | exact fun h => h.elim
      | exact fun h => ⟨_, h, fun _ h' => h'⟩
  · exact fun ⟨a, h⟩ => ⟨_, h, fun _ h' => ⟨a, h'⟩⟩
  · exact aslice_det
  · exact afldAddr_det
  · exact afld_det
  · exact aidx_det
  · exact aext_det
  · exact fun ⟨a, h⟩ => let ⟨v, h1, h2⟩ := abuild_det h; ⟨v, h1, fun _ h' => ⟨a, h2 _ h'⟩⟩
  · exact alook_det
  · exact apureCall_det
  · exact fun h => h.elim
theorem abuildS_det {T : TypeId} {n : Nat} {ps : List (Nat × AV)} : abuildS E T n ps K → ∃ v, K v ∧ ∀ K' : AV → Prop, K' v → abuildS E T n ps K' := by
  unfold abuildS
  repeat' split
  all_goals first
    | exact fun h => h.elim
    | exact fun ⟨a, b, h⟩ => ⟨_, h, fun _ h' => ⟨a, b, h'⟩⟩
    | exact fun ⟨a, b, h⟩ => h.elim
end det

/-! ### Operations that leave what is owned as it is -/
def qcallF (E : Env) (g : FuncId) (args : List AV) (H : List AObj) (K : AV → Prop) : Prop := match E.ext g with
  | some f => (match f args with
    | some v => K v
    | none => False)
  | none => ∃ v, ACalls E g args H (fun r H' => r = v ∧ H' = H) ∧ K v
def qcall (E : Env) (c : Call) (ρ : Operand → AV) (H : List AObj) (K : AV → Prop) : Prop := match c.callee with
  | .builtin .append => False
  | .builtin .delete => False
  | .builtin .clear => False
  | .value f => (match ρ f with
    | .d (.func g caps) => qcallF E g (c.args.toList.map ρ ++ caps.map .d) H K
    | .func g caps => qcallF E g (c.args.toList.map ρ ++ caps) H K
    | _ => False)
  | .builtin _ => apureCall E c ρ H K
  | .invoke _ _ => False
def qop (E : Env) (o : Op) (ρ : Operand → AV) (H : List AObj) (K : AV → Prop) : Prop := match o with
  | .alloc _ => False
  | .box _ _ => False
  | .store _ _ _ => False
  | .buildSlice T n ps => abuildS E T n (ps.toList.map fun (i, x) => (i, ρ x)) K
  | .makeSlice _ _ _ => False
  | .makeMap _ _ => False
  | .mapUpdate _ _ _ _ => False
  | .insert _ _ _ _ => False
  | .range _ _ => False
  | .next _ _ => False
  | .entry _ => False
  | .call c => qcall E c ρ H K
  | o => apure E o ρ H K

theorem qcallF_acallF {E : Env} {g : FuncId} {args : List AV} {H : List AObj} {K : AV → Prop} (h : qcallF E g args H K) :
    ∃ v, K v ∧ acallF E g args H (fun r H' => r = v ∧ H' = H) (fun r H' => r = v ∧ H' = H) := by
  unfold qcallF at h
  unfold acallF
  cases hx : E.ext g with
  | some f =>
    simp only [hx] at h ⊢
    cases hf : f args with
    | some v => simp only [hf] at h ⊢; exact ⟨v, h, rfl, trivial⟩
    | none => simp only [hf] at h
  | none =>
    simp only [hx] at h ⊢
    obtain ⟨v, h1, h2⟩ := h
    exact ⟨v, h2, h1⟩
theorem qcall_acall {E : Env} {c : Call} {ρ : Operand → AV} {H : List AObj} {K : AV → Prop} (h : qcall E c ρ H K) :
    ∃ v, K v ∧ acall E c ρ H (fun r H' => r = v ∧ H' = H) (fun r H' => r = v ∧ H' = H) := by
  obtain ⟨callee, args, ts⟩ := c
  cases callee with
  | value f =>
    unfold qcall at h
    unfold acall
    simp only at h ⊢
    split at h
    · rename_i g caps hρ
      simp only [hρ]
      exact qcallF_acallF h
    · rename_i g caps hρ
      simp only [hρ]
      exact qcallF_acallF h
    · exact h.elim
  | invoke r m => exact h.elim
  | builtin b =>
    by_cases hb : b = .append ∨ b = .delete ∨ b = .clear
    · rcases hb with rfl | rfl | rfl <;> exact h.elim
    · have e1 : qcall E ⟨.builtin b, args, ts⟩ ρ H K = apureCall E ⟨.builtin b, args, ts⟩ ρ H K := by cases b <;> first | rfl | exact absurd (by simp) hb
      have e2 : ∀ K1 K2, acall E ⟨.builtin b, args, ts⟩ ρ H K1 K2 = apureCall E ⟨.builtin b, args, ts⟩ ρ H (fun v => K1 v H) := fun K1 K2 => by cases b <;> first | rfl | exact absurd (by simp) hb
      rw [e1] at h
      obtain ⟨v, h1, h2⟩ := apureCall_det h
      refine ⟨v, h1, ?_⟩
      rw [e2]
      exact h2 _ ⟨rfl, rfl⟩
theorem qop_aop {E : Env} {o : Op} {ρ : Operand → AV} {H : List AObj} {K : AV → Prop} (h : qop E o ρ H K) :
    ∃ v, K v ∧ aop E o ρ H (fun r H' => r = v ∧ H' = H) (fun r H' => r = v ∧ H' = H) := by
  cases o
  case alloc => exact h.elim
  case box => exact h.elim
  case store => exact h.elim
  case makeSlice => exact h.elim
  case makeMap => exact h.elim
  case mapUpdate => exact h.elim
  case insert => exact h.elim
  case range => exact h.elim
  case next => exact h.elim
  case entry => exact h.elim
  case buildSlice T n ps =>
    obtain ⟨v, h1, h2⟩ := abuildS_det (show abuildS E T n _ K from h)
    exact ⟨v, h1, h2 (fun v' => v' = v ∧ H = H) ⟨rfl, rfl⟩⟩
  case call c => exact qcall_acall (show qcall E c ρ H K from h)
  case binOp op T x y yT =>
    obtain ⟨v, h1, h2⟩ := abin_det (show abin E op T (isC x || isC y) (ρ x) (ρ y) K from h)
    exact ⟨v, h1, abin_aopBin (h2 (fun v' => v' = v ∧ H = H) ⟨rfl, rfl⟩)⟩
  all_goals
    simp only [qop] at h
    obtain ⟨v, h1, h2⟩ := apure_det h
    refine ⟨v, h1, ?_⟩
    simp only [aop]
    exact h2 _ (by simp)

/-! ### They look at their operands alone -/
theorem mapPair_congr {ρ ρ' : Operand → AV} (l : List (Nat × Operand)) (h : ∀ x ∈ l.map (·.2), ρ x = ρ' x) : (l.map fun (i, x) => (i, ρ x)) = l.map fun (i, x) => (i, ρ' x) :=
  List.map_congr_left fun p hp => by
    obtain ⟨i, x⟩ := p
    simp only [h x (List.mem_map.2 ⟨(i, x), hp, rfl⟩)]
theorem qcall_congr {E : Env} {c : Call} {ρ ρ' : Operand → AV} {H : List AObj} {K : AV → Prop} (h : ∀ x ∈ c.operands, ρ x = ρ' x) : qcall E c ρ H K = qcall E c ρ' H K := by
  obtain ⟨callee, args, ts⟩ := c
  have ha : args.toList.map ρ = args.toList.map ρ' := List.map_congr_left fun x hx => h x (by simp [Call.operands]; right; simpa using hx)
  cases callee with
  | value f =>
    have hf : ρ f = ρ' f := h f (by simp [Call.operands])
    simp only [qcall, hf, ha]
  | invoke r m => rfl
  | builtin b =>
    have key : apureCall E ⟨.builtin b, args, ts⟩ ρ H K = apureCall E ⟨.builtin b, args, ts⟩ ρ' H K := by
      unfold apureCall
      cases b <;> try rfl
      case max => simp only [ha]
      case min => simp only [ha]
      simp only
      cases hargs : args.toList with
      | nil => rfl
      | cons x xs =>
        cases ts.toList with
        | nil => rfl
        | cons T Ts =>
          have : ρ x = ρ' x := h x (by
            have hm : x ∈ args.toList := by rw [hargs]; simp
            simp [Call.operands]; simpa using hm)
          simp only [this]
    cases b <;> first | rfl | exact key
theorem qop_congr {E : Env} {o : Op} {ρ ρ' : Operand → AV} {H : List AObj} {K : AV → Prop} (h : ∀ x ∈ o.operands, ρ x = ρ' x) : qop E o ρ H K = qop E o ρ' H K := by
  cases o <;> simp only [Op.operands] at h <;> simp only [qop, apure]
  case call c => exact qcall_congr h
  case buildSlice T n ps => rw [mapPair_congr ps.toList (fun x hx => h x (by simpa using hx))]
  case build T ps => rw [mapPair_congr ps.toList (fun x hx => h x (by simpa using hx))]
  case makeFunc fn first caps =>
    cases fn <;> simp only
    rw [List.map_congr_left (l := caps.toList) fun x hx => h x (by simp; right; simpa using hx)]
  case slice t x lo hi mx => cases lo <;> cases hi <;> cases mx <;> simp_all
  all_goals (first | rfl | (simp_all; done))

/-! ### Orders -/
theorem getD_set_ne_bool {l : Array Bool} {j k : Nat} {b d : Bool} (h : j ≠ k) : (l.setIfInBounds j b).getD k d = l.getD k d := by
  simp [Array.getD_eq_getD_getElem?, Array.getElem?_setIfInBounds_ne h]
section
variable {E : Env} {n0 : Nat} {ops : Array Oper} {H : List AObj}

/-- Is the operation wanted? -/
def wantA (ops : List Oper) (o : Oper) (t : List AV) : Option Bool := match o.guard with
  | none => some true
  | some (j, want) => match gval ops t j with
    | some (_, .d (.bool b)) => some (b == want)
    | some (_, .d (.tup [])) => some false
    | _ => none
/-- It yields v, whatever else has been carried out. -/
def YA (E : Env) (ops : List Oper) (H : List AObj) (o : Oper) (v : AV) (t : List AV) : Prop :=
  (wantA ops o t = some true ∧ aop E o.op (ev E t) H (fun r H' => r = v ∧ H' = H) (fun r H' => r = v ∧ H' = H) ∧ ∀ ρ : Operand → AV, (∀ x ∈ o.op.operands, ev E t x = ρ x) → aop E o.op ρ H (fun r H' => r = v ∧ H' = H) (fun r H' => r = v ∧ H' = H)) ∨
  (wantA ops o t = some false ∧ v = udf)
def QOp (E : Env) (ops : Array Oper) (H : List AObj) (i : Nat) (K : List AV → Prop) (t : List AV) : Prop :=
  ∃ o, ops[i]? = some o ∧ ∃ v, YA E ops.toList H o v t ∧ K (putT t o.dst v)
theorem QOp.mono {i : Nat} {K K' : List AV → Prop} {t : List AV} (h : ∀ t, K t → K' t) (hh : QOp E ops H i K t) : QOp E ops H i K' t := by
  obtain ⟨o, h1, v, h2, h3⟩ := hh
  exact ⟨o, h1, v, h2, h _ h3⟩

theorem ev_put {t : List AV} {dst : Option Tmp} {v : AV} {x : Operand} (h : ∀ d, dst = some d → x ≠ .tmp d) : ev E (putT t dst v) x = ev E t x := by
  cases dst with
  | none => rfl
  | some d => cases x with
    | tmp i =>
      have hne : d ≠ i := fun e => h d rfl (e ▸ rfl)
      simp [ev, putT, List.getD_eq_getElem?_getD, List.getElem?_set_ne hne]
    | _ => rfl
theorem gval_put {opl : List Oper} {t : List AV} {dst : Option Tmp} {v : AV} {j : Nat} (h : ∀ d, dst = some d → ((opl[j]?).bind (·.dst)) ≠ some d) : gval opl (putT t dst v) j = gval opl t j := by
  cases dst with
  | none => rfl
  | some d =>
    unfold gval
    cases hj : opl[j]? with
    | none => rfl
    | some o => cases hd : o.dst with
      | none => simp [hd]
      | some d' =>
        have hne : d ≠ d' := fun e => h d rfl (by subst e; simp [hj, hd])
        simp [hd, putT, List.getD_eq_getElem?_getD, List.getElem?_set_ne hne]
theorem wantA_put {o : Oper} {t : List AV} {dst : Option Tmp} {v : AV} (h : ∀ d, dst = some d → d ∉ o.looksAt ops) : wantA ops.toList o (putT t dst v) = wantA ops.toList o t := by
  unfold wantA
  cases hg : o.guard with
  | none => rfl
  | some gw =>
    obtain ⟨j, want⟩ := gw
    simp only
    rw [gval_put (fun d hd he => h d hd (by
      rw [Array.getElem?_toList] at he
      simp [Oper.looksAt, hg, he]))]
theorem evs_put {o : Oper} {t : List AV} {dst : Option Tmp} {v : AV} (h : ∀ d, dst = some d → d ∉ o.looksAt ops) : ∀ x ∈ o.op.operands, ev E (putT t dst v) x = ev E t x := fun x hx =>
  ev_put fun d hd hxd => h d hd (by
    subst hxd
    exact List.mem_append_left _ (List.mem_filterMap.2 ⟨.tmp d, by simpa using hx, rfl⟩))
theorem YA.put {o : Oper} {v : AV} {t : List AV} {dst : Option Tmp} {u : AV} (h : ∀ d, dst = some d → d ∉ o.looksAt ops) (hy : YA E ops.toList H o v t) : YA E ops.toList H o v (putT t dst u) := by
  rcases hy with ⟨h1, h2, h3⟩ | ⟨h1, h2⟩
  · have e : ∀ x ∈ o.op.operands, ev E t x = ev E (putT t dst u) x := fun x hx => (evs_put (E := E) h x hx).symm
    exact .inl ⟨by rw [wantA_put h]; exact h1, h3 _ e, fun ρ hρ => h3 ρ fun x hx => (e x hx).trans (hρ x hx)⟩
  · exact .inr ⟨by rw [wantA_put h]; exact h1, h2⟩
theorem YA.unput {o : Oper} {v : AV} {t : List AV} {dst : Option Tmp} {u : AV} (h : ∀ d, dst = some d → d ∉ o.looksAt ops) (hy : YA E ops.toList H o v (putT t dst u)) : YA E ops.toList H o v t := by
  rcases hy with ⟨h1, h2, h3⟩ | ⟨h1, h2⟩
  · have e : ∀ x ∈ o.op.operands, ev E (putT t dst u) x = ev E t x := evs_put (E := E) h
    exact .inl ⟨by rw [← wantA_put (v := u) h]; exact h1, h3 _ e, fun ρ hρ => h3 ρ fun x hx => (e x hx).trans (hρ x hx)⟩
  · exact .inr ⟨by rw [← wantA_put (v := u) h]; exact h1, h2⟩
theorem putT_comm (t : List AV) {x y : Option Tmp} (v u : AV) (h : ∀ d, x = some d → y ≠ some d) : putT (putT t x v) y u = putT (putT t y u) x v := by
  cases x with
  | none => rfl
  | some d => cases y with
    | none => rfl
    | some e =>
      have hne : d ≠ e := fun he => h d rfl (he ▸ rfl)
      exact List.set_comm _ _ hne

/-- In whatever order the operations before N come, there is one that may come next till all have come; then B holds. -/
def WA (E : Env) (ops : Array Oper) (H : List AObj) (N : Nat) (LN : Array Bool) (B : List AV → Prop) : Nat → Array Bool → List AV → Prop
  | 0, listed, t => listed = LN ∧ B t
  | fuel + 1, listed, t => Region.ready .any ops listed ≠ [] ∧ ∀ i ∈ Region.ready .any ops listed, i < N ∧ QOp E ops H i (WA E ops H N LN B fuel (listed.setIfInBounds i true)) t

theorem QOp_put {j : Nat} {oi oj : Oper} {v : AV} (hj : ops[j]? = some oj) (hap : oi.apart ops oj = true) {K : List AV → Prop} {t : List AV}
    (hy : YA E ops.toList H oi v t) (h : QOp E ops H j K (putT t oi.dst v)) : QOp E ops H j (fun t' => YA E ops.toList H oi v t' ∧ K (putT t' oi.dst v)) t := by
  obtain ⟨h1, h2, h3⟩ := Oper.apart_spec hap
  obtain ⟨o, ho, u, hu, hK⟩ := h
  rw [hj] at ho
  obtain rfl := Option.some.inj ho
  exact ⟨oj, hj, u, hu.unput h1, hy.put h3, by rw [← putT_comm t v u h2]; exact hK⟩

theorem WA_first {N : Nat} {LN : Array Bool} {B : List AV → Prop} {i : Nat} {oi : Oper} {v : AV} (hi : ops[i]? = some oi) (hiN : i < N) (hLN : ∀ j, j < N → j < ops.size → LN.getD j false = true)
    (hwait : ∀ j oj, N ≤ j → ops[j]? = some oj → ∀ k, k < N → ∃ e ∈ oj.after, Region.binds .any e = true ∧ e.on = k) :
    ∀ (fuel : Nat) (listed : Array Bool) (t : List AV),
      (∀ j oj, ops[j]? = some oj → j ≠ i → listed.getD j true = false → (∀ e ∈ oj.after, Region.binds .any e = true → e.on ≠ i) → oi.apart ops oj = true) →
      i ∈ Region.ready .any ops listed → YA E ops.toList H oi v t →
      WA E ops H N LN B fuel (listed.setIfInBounds i true) (putT t oi.dst v) → WA E ops H N LN B (fuel + 1) listed t := by
  -- an operation behind N waits for i
  have tail : ∀ (listed : Array Bool) j, i ∈ Region.ready .any ops listed → j ∈ Region.ready .any ops listed → j < N := fun listed j hr hj => by
    rcases Nat.lt_or_ge j N with h | h
    · exact h
    · exfalso
      obtain ⟨_, oj, hoj, hall⟩ := mem_ready.1 hj
      obtain ⟨e, he, hb, hon⟩ := hwait j oj h hoj i hiN
      have h1 := hall e he hb
      have h0 := (mem_ready.1 hr).1
      rw [hon] at h1
      rcases Nat.lt_or_ge i listed.size with h' | h'
      · simp [h'] at h0 h1; rw [h0] at h1; cases h1
      · simp [Array.getElem?_eq_none h'] at h1
  intro fuel
  induction fuel with
  | zero =>
    intro listed t _ hr hy Hh
    refine ⟨fun h => (by rw [h] at hr; cases hr), fun j hj => ?_⟩
    have hjN := tail listed j hr hj
    by_cases hji : j = i
    · subst hji; exact ⟨hjN, oi, hi, v, hy, Hh⟩
    · exfalso
      obtain ⟨hun, oj, hoj, _⟩ := mem_ready.1 hj
      have h1 := hLN j hjN (Array.getElem?_eq_some_iff.1 hoj).1
      rw [← Hh.1] at h1
      have hne : i ≠ j := Ne.symm hji
      rw [getD_set_ne_bool hne] at h1
      rcases Nat.lt_or_ge j listed.size with h' | h'
      · simp [h'] at h1 hun
        rw [hun] at h1; cases h1
      · simp [Array.getElem?_eq_none h'] at h1
  | succ fuel ih =>
    intro listed t hfree hr hy Hh
    refine ⟨fun h => (by rw [h] at hr; cases hr), fun j hj => ?_⟩
    have hjN := tail listed j hr hj
    by_cases hji : j = i
    · subst hji; exact ⟨hjN, oi, hi, v, hy, Hh⟩
    · have h1 := (Hh.2 j (ready_mono hj hji)).2
      obtain ⟨hjun, oj, hoj, hall⟩ := mem_ready.1 hj
      have hnot : ∀ e ∈ oj.after, Region.binds .any e = true → e.on ≠ i := fun e he hb heq => by
        have h1 := hall e he hb
        have h0 := (mem_ready.1 hr).1
        rw [heq] at h1
        rcases Nat.lt_or_ge i listed.size with h' | h'
        · simp [h'] at h0 h1; rw [h0] at h1; cases h1
        · simp [Array.getElem?_eq_none h'] at h1
      have h2 := QOp_put hoj (hfree j oj hoj hji hjun hnot) hy h1
      have hfree' : ∀ k ok, ops[k]? = some ok → k ≠ i → (listed.setIfInBounds j true).getD k true = false →
          (∀ e ∈ ok.after, Region.binds .any e = true → e.on ≠ i) → oi.apart ops ok = true := fun k ok hk hki hun hno => by
        refine hfree k ok hk hki ?_ hno
        by_cases hjk : j = k
        · subst hjk; exact hjun
        · rw [getD_set_ne_bool hjk] at hun; exact hun
      refine ⟨hjN, h2.mono (fun t' h3 => ih (listed.setIfInBounds j true) t' hfree' (ready_mono hr (Ne.symm hji)) h3.1 ?_)⟩
      rw [Array.setIfInBounds_comm _ _ hji]
      exact h3.2
end
end Go.Abs
