/-
  The walk's rules, as a rewriting takes them: what stands behind an operation is never looked into before its turn.
-/
import Derived.Test.YtjljjakfebfpfaaDoorAbs13
set_option autoImplicit false
set_option linter.unusedVariables false
namespace Go.Abs

theorem lock_ex {α : Type} (a : α) : ∃ x : α, x = a := ⟨a, rfl⟩
noncomputable def lock {α : Type} (a : α) : α := Classical.choose (lock_ex a)
theorem lock_eq {α : Type} (a : α) : lock a = a := Classical.choose_spec (lock_ex a)
noncomputable def aregL : Env → Nat → List Oper → List Oper → K3 → K3 := lock areg
theorem aregL_eq : aregL = areg := lock_eq areg
noncomputable def adrawL : Env → List Oper → List Oper → K3 → K3 := lock adraw
theorem adrawL_eq : adrawL = adraw := lock_eq adraw
noncomputable def awpL : Env → Nat → Bool → Code → Q3 → K3 := lock awp
theorem awpL_eq : awpL = awp := lock_eq awp

/-! What stands behind -/
def Kat (K : AV → List AObj → Prop) (H : List AObj) : AV → Prop := fun v => K v H
def Kst (K : AV → List AObj → Prop) : List AObj → Prop := fun H' => K .dead H'
noncomputable def Kreg (E : Env) (n0 : Nat) (ops r : List Oper) (K : K3) (t : List AV) (dst : Option Tmp) (ds : List Nat) : AV → List AObj → Prop := fun v H' => aregL E n0 ops r K (putT t dst v) H' ds
noncomputable def KregW (E : Env) (n0 : Nat) (ops r : List Oper) (K : K3) (t : List AV) (dst : Option Tmp) (ds : List Nat) : AV → List AObj → Prop := fun v H' => WK E n0 (aregL E n0 ops r K) (putT t dst v) H' ds
noncomputable def Kdr (E : Env) (ops r : List Oper) (K : K3) (t : List AV) (dst : Option Tmp) (H : List AObj) (ds : List Nat) : AV → Prop := fun v => adrawL E ops r K (putT t dst v) H ds
noncomputable def Qseq (E : Env) (n0 : Nat) (rd : Bool) (b : Code) (Q : Q3) : Q3 := fun e t H ds => match e with
  | .normal => awpL E n0 rd b Q t H ds
  | e => Q e t H ds
def Qblk (id : Nat) (Q : Q3) : Q3 := fun e t H ds => match e with
  | .exit i => if i = id then Q .normal t H ds else Q (.exit i) t H ds
  | e => Q e t H ds
def Kbr (b : Bool) (X Y : K3) (t u : List AV) (H : List AObj) (ds : List Nat) : Prop := Br b (X t H ds) (Y u H ds)
noncomputable def Kgo (E : Env) (n0 : Nat) (ops : List Oper) (o : Oper) (r : List Oper) (K : K3) : K3 := fun t H ds => aop E o.op (ev E t) H (Kreg E n0 ops r K t o.dst ds) (KregW E n0 ops r K t o.dst ds)
noncomputable def Kno (E : Env) (n0 : Nat) (ops : List Oper) (o : Oper) (r : List Oper) (K : K3) : K3 := fun t H ds => aregL E n0 ops r K (putT t o.dst (.d (.tup []))) H ds
noncomputable def Dgo (E : Env) (ops : List Oper) (o : Oper) (r : List Oper) (K : K3) : K3 := fun t H ds => qop E o.op (ev E t) H (Kdr E ops r K t o.dst H ds)
noncomputable def Dno (E : Env) (ops : List Oper) (o : Oper) (r : List Oper) (K : K3) : K3 := fun t H ds => adrawL E ops r K (putT t o.dst (.d (.tup []))) H ds
/-- Two values behind a test. -/
def Vbr (b : Bool) (K : AV → Prop) (x y : AV) : Prop := Br b (K x) (K y)
def QC (E : Env) (g : FuncId) (args : List AV) (H : List AObj) (K : AV → Prop) : Prop := ∃ v, ACalls E g args H (fun r H' => r = v ∧ H' = H) ∧ K v
/-- An open order serves as the text's. -/
def DrawOK (l : List Oper) (n : Nat) : Prop := drawOK l.toArray n = true
/-- A region in an open order: the walk waits for the word which way. -/
def DRegL (E : Env) (n0 : Nat) (l : List Oper) (Q : Q3) (t : List AV) (H : List AObj) (ds : List Nat) : Prop := DReg E n0 l.toArray Q t H ds
def pickL (l : List Oper) (is : List Nat) : List Oper := is.filterMap fun i => l[i]?
def Draw2 (l : List Oper) : Prop := draw2 l.toArray = true
noncomputable def atailL : Env → List Oper → List Oper → List AV → List AV → List Oper → K3 → K3 := lock atail
theorem atailL_eq : atailL = atail := lock_eq atail
/-- What is quiet yields the same still. -/
def Same (tq : List AV) : K3 := fun t' _ _ => t' = tq
noncomputable def Kt (E : Env) (opl el : List Oper) (t0 tq : List AV) (r : List Oper) (K : K3) (t : List AV) (dst : Option Tmp) (ds : List Nat) : AV → List AObj → Prop := fun v H' => adrawL E opl el (Same tq) t0 H' ds ∧ atailL E opl el t0 tq r K (putT t dst v) H' ds
noncomputable def Kt0 (E : Env) (opl el : List Oper) (t0 : List AV) (r : List Oper) (K : K3) : K3 := fun tq H ds => atailL E opl el t0 tq r K tq H ds
noncomputable def KtGo (E : Env) (opl el : List Oper) (t0 tq : List AV) (o : Oper) (r : List Oper) (K : K3) : K3 := fun t H ds => aop E o.op (ev E t) H (Kt E opl el t0 tq r K t o.dst ds) (Kt E opl el t0 tq r K t o.dst ds)
noncomputable def KtNo (E : Env) (opl el : List Oper) (t0 tq : List AV) (o : Oper) (r : List Oper) (K : K3) : K3 := fun t H ds => atailL E opl el t0 tq r K (putT t o.dst (.d (.tup []))) H ds
def Kapp (H : List AObj) (e : TypeId) (te : TI) (s : AV) (K : AV → List AObj → Prop) : List (List D) → Prop := fun ys => match s with
  | .d .nils => room ys.length te.bytes ∧ K (.sfull H.length) (H ++ [.arr e te.size ys])
  | .svalf sz xs => sz = te.size ∧ (0 < ys.length ∨ xs.length = 0) ∧ room (xs.length + ys.length) te.bytes ∧ K (.sfull H.length) (H ++ [.arr e te.size (xs ++ ys)])
  | .sfull id => (match H.getD id .none with
    | .arr e' sz xs => e' = e ∧ sz = te.size ∧ room (xs.length + ys.length) te.bytes ∧ K (.sfull H.length) (H.set id .none ++ [.arr e te.size (xs ++ ys)])
    | _ => False)
  | _ => False
def Kcons (v : AV) (K : List AV → Prop) : List AV → Prop := fun l => K (v :: l)
def Kres (E : Env) (t : List AV) (H : List AObj) (r : List ResultVar) (K : List AV → Prop) : AV → Prop := fun v => aresL E t H r (Kcons v K)
def Kone (K : AV → List AObj → Prop) (H : List AObj) : List AV → Prop := fun l => K (one? l) H
def Kfin (E : Env) (fn : Func) (K : AV → List AObj → Prop) : K3 := fun t H ds => allDefr H ds ∧ aresL E t (offs H ds) fn.results.toList (Kone K (offs H ds))
def Kdl (K : AV → List AObj → Prop) : List AObj → Prop := fun H' => K (.d (.tup [])) H'

section
variable {E : Env} {n0 : Nat} {rd : Bool} {ops r : List Oper} {o : Oper} {K : K3} {Q : Q3} {t u : List AV} {H : List AObj} {ds : List Nat} {a b : Code}
theorem Kat_go {K : AV → List AObj → Prop} {v : AV} : Kat K H v = K v H := rfl
theorem Kst_go {K : AV → List AObj → Prop} : Kst K H = K .dead H := rfl
theorem Kreg_go {dst : Option Tmp} {v : AV} : Kreg E n0 ops r K t dst ds v H = aregL E n0 ops r K (putT t dst v) H ds := rfl
theorem KregW_go {dst : Option Tmp} {v : AV} : KregW E n0 ops r K t dst ds v H = WK E n0 (aregL E n0 ops r K) (putT t dst v) H ds := rfl
theorem Kdr_go {dst : Option Tmp} {v : AV} : Kdr E ops r K t dst H ds v = adrawL E ops r K (putT t dst v) H ds := rfl
theorem Qseq_normal : Qseq E n0 rd b Q .normal t H ds = awpL E n0 rd b Q t H ds := rfl
theorem Qseq_ret : Qseq E n0 rd b Q .ret t H ds = Q .ret t H ds := rfl
theorem Qseq_exit {i : Nat} : Qseq E n0 rd b Q (.exit i) t H ds = Q (.exit i) t H ds := rfl
theorem Qblk_normal {id : Nat} : Qblk id Q .normal t H ds = Q .normal t H ds := rfl
theorem Qblk_ret {id : Nat} : Qblk id Q .ret t H ds = Q .ret t H ds := rfl
theorem Qblk_exit {id i : Nat} : Qblk id Q (.exit i) t H ds = if i = id then Q .normal t H ds else Q (.exit i) t H ds := rfl
theorem Kbr_true {X Y : K3} : Kbr true X Y t u H ds = X t H ds := by simp [Kbr, Br]
theorem Kbr_false {X Y : K3} : Kbr false X Y t u H ds = Y u H ds := by simp [Kbr, Br]
theorem Kbr.mk {p : Bool} {X Y : K3} (h1 : p = true → X t H ds) (h2 : p = false → Y u H ds) : Kbr p X Y t u H ds := ⟨h1, h2⟩
theorem Vbr_true {K : AV → Prop} {x y : AV} : Vbr true K x y = K x := by simp [Vbr, Br]
theorem Vbr_false {K : AV → Prop} {x y : AV} : Vbr false K x y = K y := by simp [Vbr, Br]
theorem Vbr_bool {K : AV → Prop} {p x y : Bool} (h : K (.d (.bool (bif p then x else y)))) : Vbr p K (.d (.bool x)) (.d (.bool y)) := by cases p <;> simp_all [Vbr, Br]
theorem Kgo_go : Kgo E n0 ops o r K t H ds = aop E o.op (ev E t) H (Kreg E n0 ops r K t o.dst ds) (KregW E n0 ops r K t o.dst ds) := rfl
theorem Kno_go : Kno E n0 ops o r K t H ds = aregL E n0 ops r K (putT t o.dst (.d (.tup []))) H ds := rfl
theorem Dgo_go : Dgo E ops o r K t H ds = qop E o.op (ev E t) H (Kdr E ops r K t o.dst H ds) := rfl
theorem Dno_go : Dno E ops o r K t H ds = adrawL E ops r K (putT t o.dst (.d (.tup []))) H ds := rfl
theorem Kcons_go {v : AV} {K : List AV → Prop} {l : List AV} : Kcons v K l = K (v :: l) := rfl
theorem Kres_go {rs : List ResultVar} {K : List AV → Prop} {v : AV} : Kres E t H rs K v = aresL E t H rs (Kcons v K) := rfl
theorem Kone_go {K : AV → List AObj → Prop} {l : List AV} : Kone K H l = K (one? l) H := rfl
theorem Kfin_go {fn : Func} {K : AV → List AObj → Prop} : Kfin E fn K t H ds = (allDefr H ds ∧ aresL E t (offs H ds) fn.results.toList (Kone K (offs H ds))) := rfl
theorem allDefr_nil : allDefr H [] = True := rfl
theorem allDefr_cons {d : Nat} : allDefr H (d :: ds) = (H[d]? = some .defr ∧ allDefr (H.set d .none) ds) := rfl
theorem offs_nil : offs H [] = H := rfl
theorem offs_cons {d : Nat} : offs H (d :: ds) = offs (H.set d .none) ds := rfl
theorem Kdl_go {K : AV → List AObj → Prop} : Kdl K H = K (.d (.tup [])) H := rfl
theorem Kapp_nils {e : TypeId} {te : TI} {K : AV → List AObj → Prop} {ys : List (List D)} : Kapp H e te (.d .nils) K ys = (room ys.length te.bytes ∧ K (.sfull H.length) (H ++ [.arr e te.size ys])) := rfl
theorem Kapp_svalf {e : TypeId} {te : TI} {K : AV → List AObj → Prop} {sz : Nat} {xs ys : List (List D)} : Kapp H e te (.svalf sz xs) K ys = (sz = te.size ∧ (0 < ys.length ∨ xs.length = 0) ∧ room (xs.length + ys.length) te.bytes ∧ K (.sfull H.length) (H ++ [.arr e te.size (xs ++ ys)])) := rfl
theorem Kapp_sfull {e : TypeId} {te : TI} {K : AV → List AObj → Prop} {id : Nat} {ys : List (List D)} : Kapp H e te (.sfull id) K ys = (match H.getD id .none with
    | .arr e' sz xs => e' = e ∧ sz = te.size ∧ room (xs.length + ys.length) te.bytes ∧ K (.sfull H.length) (H.set id .none ++ [.arr e te.size (xs ++ ys)])
    | _ => False) := rfl
theorem aresL_nil {K : List AV → Prop} : aresL E t H [] K = K [] := rfl
theorem aresL_tmp {K : List AV → Prop} {i : Tmp} {rs : List ResultVar} : aresL E t H (.tmp i :: rs) K = aresL E t H rs (Kcons (t.getD i .dead) K) := rfl
theorem aresL_cell {K : List AV → Prop} {i : Tmp} {T : TypeId} {rs : List ResultVar} : aresL E t H (.cell i T :: rs) K = aload E T H (Kres E t H rs K) (t.getD i .dead) := rfl
theorem aret_ret {fn : Func} {K : AV → List AObj → Prop} : aret E n0 fn K .ret t H ds = WK E n0 (Kfin E fn K) t H ds := rfl
theorem aret_normal {fn : Func} {K : AV → List AObj → Prop} : aret E n0 fn K .normal t H ds = WK E n0 (Kfin E fn K) t H ds := rfl

theorem aregL_nil : aregL E n0 ops [] K t H ds = K t H ds := by rw [aregL_eq]; rfl
theorem aregL_plain {dst : Option Tmp} {op : Op} {ty : TypeId} {pos : String} {after : Array Edge} : aregL E n0 ops (⟨dst, op, ty, pos, after, none⟩ :: r) K t H ds = aop E op (ev E t) H (Kreg E n0 ops r K t dst ds) (KregW E n0 ops r K t dst ds) := by
  unfold Kreg KregW; rw [aregL_eq]; rfl
theorem aregL_guard {dst : Option Tmp} {op : Op} {ty : TypeId} {pos : String} {after : Array Edge} {j : Nat} {want : Bool} : aregL E n0 ops (⟨dst, op, ty, pos, after, some (j, want)⟩ :: r) K t H ds = match gval ops t j with
      | some (d, .d (.bool b)) => Kbr (b == want) (Kgo E n0 ops ⟨dst, op, ty, pos, after, some (j, want)⟩ r K) (Kno E n0 ops ⟨dst, op, ty, pos, after, some (j, want)⟩ r K) (t.set d (.d (.bool want))) (t.set d (.d (.bool (!want)))) H ds
      | some (_, .d (.tup [])) => Kno E n0 ops ⟨dst, op, ty, pos, after, some (j, want)⟩ r K t H ds
      | _ => False := by
  unfold Kbr Kgo Kno Kreg KregW; rw [aregL_eq]; rfl
theorem adrawL_nil : adrawL E ops [] K t H ds = K t H ds := by rw [adrawL_eq]; rfl
theorem adrawL_plain {dst : Option Tmp} {op : Op} {ty : TypeId} {pos : String} {after : Array Edge} : adrawL E ops (⟨dst, op, ty, pos, after, none⟩ :: r) K t H ds = qop E op (ev E t) H (Kdr E ops r K t dst H ds) := by
  unfold Kdr; rw [adrawL_eq]; rfl
theorem adrawL_guard {dst : Option Tmp} {op : Op} {ty : TypeId} {pos : String} {after : Array Edge} {j : Nat} {want : Bool} : adrawL E ops (⟨dst, op, ty, pos, after, some (j, want)⟩ :: r) K t H ds = match gval ops t j with
      | some (d, .d (.bool b)) => Kbr (b == want) (Dgo E ops ⟨dst, op, ty, pos, after, some (j, want)⟩ r K) (Dno E ops ⟨dst, op, ty, pos, after, some (j, want)⟩ r K) (t.set d (.d (.bool want))) (t.set d (.d (.bool (!want)))) H ds
      | some (_, .d (.tup [])) => Dno E ops ⟨dst, op, ty, pos, after, some (j, want)⟩ r K t H ds
      | _ => False := by
  unfold Kbr Dgo Dno Kdr; rw [adrawL_eq]; rfl
theorem DRegL.one {l : List Oper} (h : DrawOK l (qpre l).length) (k : adrawL E l (qpre l) (aregL E n0 l (qtail l) (Q .normal)) t H ds) : DRegL E n0 l Q t H ds := .inl ⟨h, by rw [aregL_eq, adrawL_eq] at k; exact k⟩
theorem DRegL.two (ei ti : List Nat) {l : List Oper} (h : Draw2 l) (h1 : eL l.toArray = ei) (h2 : tL l.toArray = ti) (k : adrawL E l (pickL l ei) (Kt0 E l (pickL l ei) t (pickL l ti) (Q .normal)) t H ds) : DRegL E n0 l Q t H ds := by
  have e : ∀ is, opsAt l.toArray is = pickL l is := fun is => by simp [opsAt, pickL]
  subst h1 h2
  refine .inr ⟨h, ?_⟩
  rw [e, e]
  unfold Kt0 at k
  rw [atailL_eq, adrawL_eq] at k
  exact k
theorem pickL_nil {l : List Oper} : pickL l [] = [] := rfl
theorem pickL_cons {l : List Oper} {i : Nat} {is : List Nat} : pickL l (i :: is) = match l[i]? with
    | some o => o :: pickL l is
    | none => pickL l is := by
  unfold pickL
  rw [List.filterMap_cons]
  cases l[i]? <;> rfl
theorem Same_go {tq : List AV} : Same tq t H ds = (t = tq) := rfl
theorem Kt_go {el : List Oper} {t0 tq : List AV} {dst : Option Tmp} {v : AV} : Kt E ops el t0 tq r K t dst ds v H = (adrawL E ops el (Same tq) t0 H ds ∧ atailL E ops el t0 tq r K (putT t dst v) H ds) := rfl
theorem Kt0_go {el : List Oper} {t0 : List AV} : Kt0 E ops el t0 r K t H ds = atailL E ops el t0 t r K t H ds := rfl
theorem KtGo_go {el : List Oper} {t0 tq : List AV} : KtGo E ops el t0 tq o r K t H ds = aop E o.op (ev E t) H (Kt E ops el t0 tq r K t o.dst ds) (Kt E ops el t0 tq r K t o.dst ds) := rfl
theorem KtNo_go {el : List Oper} {t0 tq : List AV} : KtNo E ops el t0 tq o r K t H ds = atailL E ops el t0 tq r K (putT t o.dst (.d (.tup []))) H ds := rfl
theorem atailL_nil {el : List Oper} {t0 tq : List AV} : atailL E ops el t0 tq [] K t H ds = K t H ds := by rw [atailL_eq]; rfl
theorem atailL_plain {el : List Oper} {t0 tq : List AV} {dst : Option Tmp} {op : Op} {ty : TypeId} {pos : String} {after : Array Edge} : atailL E ops el t0 tq (⟨dst, op, ty, pos, after, none⟩ :: r) K t H ds = aop E op (ev E t) H (Kt E ops el t0 tq r K t dst ds) (Kt E ops el t0 tq r K t dst ds) := by
  unfold Kt Same; rw [atailL_eq, adrawL_eq]; rfl
theorem atailL_guard {el : List Oper} {t0 tq : List AV} {dst : Option Tmp} {op : Op} {ty : TypeId} {pos : String} {after : Array Edge} {j : Nat} {want : Bool} : atailL E ops el t0 tq (⟨dst, op, ty, pos, after, some (j, want)⟩ :: r) K t H ds = match gval ops t j with
      | some (_, .d (.bool b)) => Kbr (b == want) (KtGo E ops el t0 tq ⟨dst, op, ty, pos, after, some (j, want)⟩ r K) (KtNo E ops el t0 tq ⟨dst, op, ty, pos, after, some (j, want)⟩ r K) t t H ds
      | some (_, .d (.tup [])) => KtNo E ops el t0 tq ⟨dst, op, ty, pos, after, some (j, want)⟩ r K t H ds
      | _ => False := by
  unfold Kbr KtGo KtNo Kt Same; rw [atailL_eq, adrawL_eq]; rfl
theorem awpL_skip : awpL E n0 rd .skip Q t H ds = Q .normal t H ds := by rw [awpL_eq]; rfl
theorem awpL_region {id : Nat} {l : List Oper} : awpL E n0 rd (.region id l.toArray false) Q t H ds = aregL E n0 l l (Q .normal) t H ds := by rw [awpL_eq, aregL_eq]; rfl
theorem awpL_draw {id : Nat} {l : List Oper} : awpL E n0 rd (.region id l.toArray true) Q t H ds = DRegL E n0 l Q t H ds := by rw [awpL_eq]; rfl
theorem awpL_seq : awpL E n0 rd (.seq a b) Q t H ds = awpL E n0 rd a (Qseq E n0 rd b Q) t H ds := by unfold Qseq; rw [awpL_eq]; rfl
theorem awpL_cond {c : Operand} : awpL E n0 rd (.cond c a b) Q t H ds = match ev E t c with
    | .d (.bool x) => Kbr x (awpL E n0 rd a Q) (awpL E n0 rd b Q) t t H ds
    | _ => False := by unfold Kbr; rw [awpL_eq]; rfl
theorem awpL_block {id : Nat} : awpL E n0 rd (.block id a) Q t H ds = awpL E n0 rd a (Qblk id Q) t H ds := by unfold Qblk; rw [awpL_eq]; rfl
theorem awpL_loop : awpL E n0 rd (.loop a) Q t H ds = ALoop E n0 (awpL E n0 rd a) Q t H ds := by rw [awpL_eq]; rfl
theorem awpL_exit {id : Nat} : awpL E n0 rd (.exit id) Q t H ds = Q (.exit id) t H ds := by rw [awpL_eq]; rfl
theorem awpL_rangeFunc {g : Operand} {ps : List Tmp} : awpL E n0 rd (.rangeFunc g ps.toArray a b) Q t H ds = (rd = false ∧ ARng E n0 (ev E t g) t H ds ps a b Q) := by rw [awpL_eq]; rfl
theorem awpL_ret : awpL E n0 rd .ret Q t H ds = Q .ret t H ds := by rw [awpL_eq]; rfl

/-! Operations -/
section
variable {ρ : Operand → AV} {K KW : AV → List AObj → Prop}
theorem aop_move {x : Operand} : aop E (.move x) ρ H K KW = K (ρ x) H := rfl
theorem aop_assign {x : Operand} : aop E (.assign x) ρ H K KW = K (ρ x) H := rfl
theorem aop_pick {c x y : Operand} : aop E (.pick c x y) ρ H K KW = (match ρ c with
    | .d (.bool p) => Vbr p (Kat K H) (ρ x) (ρ y)
    | _ => False) := rfl
theorem aop_load {T : TypeId} {x : Operand} : aop E (.load T x) ρ H K KW = aload E T H (Kat K H) (ρ x) := rfl
theorem aop_nilCheck {x : Operand} : aop E (.nilCheck x) ρ H K KW = anil (ρ x) (Kat K H) := rfl
theorem aop_binOp {op : BinOp} {T T' : TypeId} {x y : Operand} : aop E (.binOp op T x y T') ρ H K KW = aopBin E op T (isC x || isC y) (ρ x) (ρ y) (Kat K H) := rfl
theorem aop_unOp {op : UnOp} {T : TypeId} {x : Operand} : aop E (.unOp op T x) ρ H K KW = aun op (ρ x) (Kat K H) := rfl
theorem aop_convert {s d : TypeId} {x : Operand} : aop E (.convert s d x) ρ H K KW = aconv E s d (ρ x) (Kat K H) := rfl
theorem aop_makeInterface {T : TypeId} {x : Operand} : aop E (.makeInterface T x) ρ H K KW = (match kd E T with
    | some .iface => False
    | some _ => K (mkIface T (ρ x)) H
    | none => False) := rfl
theorem aop_makeFunc {f : FuncId} {first : Array Operand} {caps : Array Operand} : aop E (.makeFunc (.func f) first caps) ρ H K KW = (first.toList = [] ∧ K (mkFunc f (caps.toList.map ρ)) H) := rfl
theorem aop_slice {T : TypeId} {x : Operand} {lo hi mx : Option Operand} : aop E (.slice T x lo hi mx) ρ H K KW = aslice E T H (ρ x) (lo.map ρ) (hi.map ρ) (mx.map ρ) (Kat K H) := rfl
theorem aop_fieldAddr {s : TypeId} {x : Operand} {f : Nat} : aop E (.fieldAddr s x f) ρ H K KW = afldAddr E s (ρ x) f (Kat K H) := rfl
theorem aop_field {s : TypeId} {x : Operand} {f : Nat} : aop E (.field s x f) ρ H K KW = afld E s (ρ x) f (Kat K H) := rfl
theorem aop_indexAddr {T : TypeId} {x i : Operand} : aop E (.indexAddr T x i) ρ H K KW = aidx E T H (ρ x) (ρ i) (Kat K H) := rfl
theorem aop_extract {x : Operand} {i : Nat} : aop E (.extract x i) ρ H K KW = aext (ρ x) i (Kat K H) := rfl
theorem aop_build {T : TypeId} {ps : Array (Nat × Operand)} : aop E (.build T ps) ρ H K KW = (known E T = true ∧ abuild E T (ps.toList.map fun (i, x) => (i, ρ x)) (Kat K H)) := rfl
theorem aop_box {T : TypeId} {x : Operand} : aop E (.box T x) ρ H K KW = abox H (ρ x) K := rfl
theorem aop_new {T : TypeId} : aop E (.alloc T) ρ H K KW = aalloc E T H K := rfl
theorem aop_store {T : TypeId} {a x : Operand} : aop E (.store T a x) ρ H K KW = astore E T H (ρ a) (ρ x) (Kst K) := rfl
theorem aop_buildSlice {T : TypeId} {n : Nat} {ps : Array (Nat × Operand)} : aop E (.buildSlice T n ps) ρ H K KW = abuildS E T n (ps.toList.map fun (i, x) => (i, ρ x)) (Kat K H) := rfl
theorem aop_makeSlice {T : TypeId} {l c : Operand} : aop E (.makeSlice T l c) ρ H K KW = amake E T H (ρ l) (ρ c) K := rfl
theorem aop_makeMap {T : TypeId} {x : Option Operand} : aop E (.makeMap T x) ρ H K KW = amkmap E T (x.map ρ) H K := rfl
theorem aop_mapUpdate {T : TypeId} {m k x : Operand} : aop E (.mapUpdate T m k x) ρ H K KW = amapup E T H (ρ m) (ρ k) (ρ x) (Kst K) := rfl
theorem aop_insert {T : TypeId} {m k x : Operand} : aop E (.insert T m k x) ρ H K KW = amapup E T H (ρ m) (ρ k) (ρ x) (Kst K) := rfl
theorem aop_range {T : TypeId} {x : Operand} : aop E (.range T x) ρ H K KW = arange E T H (ρ x) K := rfl
theorem aop_next {x : Operand} {b : Bool} : aop E (.next x b) ρ H K KW = anext E b H (ρ x) K := rfl
theorem aop_entry {x : Operand} : aop E (.entry x) ρ H K KW = aentry H (ρ x) (Kat K H) := rfl
theorem aop_lookup {T : TypeId} {x i : Operand} {ok : Bool} : aop E (.lookup T x i ok) ρ H K KW = alook E T H (ρ x) (ρ i) ok (Kat K H) := rfl
theorem aop_delete {m k : Operand} {T T' : TypeId} : aop E (.call ⟨.builtin .delete, #[m, k], #[T, T']⟩) ρ H K KW = adel E T H (ρ m) (ρ k) (Kdl K) := rfl
theorem aop_clear {m : Operand} {T : TypeId} : aop E (.call ⟨.builtin .clear, #[m], #[T]⟩) ρ H K KW = aclear E T H (ρ m) (Kdl K) := rfl
theorem aop_append {s x : Operand} {T T' : TypeId} : aop E (.call ⟨.builtin .append, #[s, x], #[T, T']⟩) ρ H K KW = aapp E T T' H (ρ s) (ρ x) K := rfl
theorem aop_len {args : Array Operand} {Ts : Array TypeId} : aop E (.call ⟨.builtin .len, args, Ts⟩) ρ H K KW = apureCall E ⟨.builtin .len, args, Ts⟩ ρ H (Kat K H) := rfl
theorem aop_max {args : Array Operand} {Ts : Array TypeId} : aop E (.call ⟨.builtin .max, args, Ts⟩) ρ H K KW = apureCall E ⟨.builtin .max, args, Ts⟩ ρ H (Kat K H) := rfl
theorem aop_min {args : Array Operand} {Ts : Array TypeId} : aop E (.call ⟨.builtin .min, args, Ts⟩) ρ H K KW = apureCall E ⟨.builtin .min, args, Ts⟩ ρ H (Kat K H) := rfl
theorem aop_call {f : Operand} {args : Array Operand} {Ts : Array TypeId} : aop E (.call ⟨.value f, args, Ts⟩) ρ H K KW = (match ρ f with
    | .d (.func g caps) => acallF E g (args.toList.map ρ ++ caps.map .d) H K KW
    | .func g caps => acallF E g (args.toList.map ρ ++ caps) H K KW
    | .yield id => AYield E id (args.toList.map ρ) H KW
    | _ => False) := rfl
end
section
variable {ρ : Operand → AV} {K : AV → Prop}
theorem qop_move {x : Operand} : qop E (.move x) ρ H K = K (ρ x) := rfl
theorem qop_assign {x : Operand} : qop E (.assign x) ρ H K = K (ρ x) := rfl
theorem qop_pick {c x y : Operand} : qop E (.pick c x y) ρ H K = (match ρ c with
    | .d (.bool p) => Vbr p K (ρ x) (ρ y)
    | _ => False) := rfl
theorem qop_load {T : TypeId} {x : Operand} : qop E (.load T x) ρ H K = aload E T H K (ρ x) := rfl
theorem qop_nilCheck {x : Operand} : qop E (.nilCheck x) ρ H K = anil (ρ x) K := rfl
theorem qop_binOp {op : BinOp} {T T' : TypeId} {x y : Operand} : qop E (.binOp op T x y T') ρ H K = abin E op T (isC x || isC y) (ρ x) (ρ y) K := rfl
theorem qop_unOp {op : UnOp} {T : TypeId} {x : Operand} : qop E (.unOp op T x) ρ H K = aun op (ρ x) K := rfl
theorem qop_convert {s d : TypeId} {x : Operand} : qop E (.convert s d x) ρ H K = aconv E s d (ρ x) K := rfl
theorem qop_makeInterface {T : TypeId} {x : Operand} : qop E (.makeInterface T x) ρ H K = (match kd E T with
    | some .iface => False
    | some _ => K (mkIface T (ρ x))
    | none => False) := rfl
theorem qop_makeFunc {f : FuncId} {first : Array Operand} {caps : Array Operand} : qop E (.makeFunc (.func f) first caps) ρ H K = (first.toList = [] ∧ K (mkFunc f (caps.toList.map ρ))) := rfl
theorem qop_slice {T : TypeId} {x : Operand} {lo hi mx : Option Operand} : qop E (.slice T x lo hi mx) ρ H K = aslice E T H (ρ x) (lo.map ρ) (hi.map ρ) (mx.map ρ) K := rfl
theorem qop_fieldAddr {s : TypeId} {x : Operand} {f : Nat} : qop E (.fieldAddr s x f) ρ H K = afldAddr E s (ρ x) f K := rfl
theorem qop_field {s : TypeId} {x : Operand} {f : Nat} : qop E (.field s x f) ρ H K = afld E s (ρ x) f K := rfl
theorem qop_indexAddr {T : TypeId} {x i : Operand} : qop E (.indexAddr T x i) ρ H K = aidx E T H (ρ x) (ρ i) K := rfl
theorem qop_lookup {T : TypeId} {x i : Operand} {ok : Bool} : qop E (.lookup T x i ok) ρ H K = alook E T H (ρ x) (ρ i) ok K := rfl
theorem qop_extract {x : Operand} {i : Nat} : qop E (.extract x i) ρ H K = aext (ρ x) i K := rfl
theorem qop_build {T : TypeId} {ps : Array (Nat × Operand)} : qop E (.build T ps) ρ H K = (known E T = true ∧ abuild E T (ps.toList.map fun (i, x) => (i, ρ x)) K) := rfl
theorem qop_buildSlice {T : TypeId} {n : Nat} {ps : Array (Nat × Operand)} : qop E (.buildSlice T n ps) ρ H K = abuildS E T n (ps.toList.map fun (i, x) => (i, ρ x)) K := rfl
theorem qop_len {args : Array Operand} {Ts : Array TypeId} : qop E (.call ⟨.builtin .len, args, Ts⟩) ρ H K = apureCall E ⟨.builtin .len, args, Ts⟩ ρ H K := rfl
theorem qop_max {args : Array Operand} {Ts : Array TypeId} : qop E (.call ⟨.builtin .max, args, Ts⟩) ρ H K = apureCall E ⟨.builtin .max, args, Ts⟩ ρ H K := rfl
theorem qop_min {args : Array Operand} {Ts : Array TypeId} : qop E (.call ⟨.builtin .min, args, Ts⟩) ρ H K = apureCall E ⟨.builtin .min, args, Ts⟩ ρ H K := rfl
theorem qop_call {f : Operand} {args : Array Operand} {Ts : Array TypeId} : qop E (.call ⟨.value f, args, Ts⟩) ρ H K = (match ρ f with
    | .d (.func g caps) => qcallF E g (args.toList.map ρ ++ caps.map .d) H K
    | .func g caps => qcallF E g (args.toList.map ρ ++ caps) H K
    | _ => False) := rfl
theorem qcallF_go {g : FuncId} {args : List AV} : qcallF E g args H K = (match E.ext g with
    | some f => (match f args with
      | some v => K v
      | none => False)
    | none => QC E g args H K) := rfl
theorem acallF_go {g : FuncId} {args : List AV} {K KW : AV → List AObj → Prop} : acallF E g args H K KW = (match E.ext g with
    | some f => (match f args with
      | some v => K v H
      | none => False)
    | none => ACalls E g args H KW) := rfl
theorem aapp_go {T T' : TypeId} {s x : AV} {K : AV → List AObj → Prop} : aapp E T T' H s x K = (match kd E T with
    | some (.slice e) => (match E.ty e with
      | some te => T' = T ∧ te.size ≠ 0 ∧ srcRows H te.size x (Kapp H e te s K)
      | none => False)
    | _ => False) := rfl
end
end

/-- **A FUNCTION's CONTRACT FROM ITS BODY.** -/
theorem acalls_of {E : Env} (hE : EnvOk E) {f : FuncId} {fn : Func} {c : Code} {args : List AV} {H : List AObj} {K : AV → List AObj → Prop} (hf : E.P.funcs[f]? = some fn) (hb : fn.body = some c) (hnm : (fn.name == "runtime.NumGoroutine") = false)
    {m : Nat} (hm : fn.ntmps - args.length = m) (h : awpL E H.length false c (aret E H.length fn K) (args ++ List.replicate m .dead) H []) : ACalls E f args H K :=
  acalls_of_awp hE hf hb hnm hm (by rw [awpL_eq] at h; exact h)
/-! Objects told anew, arm by arm -/
section
variable {r : Nat → Nat} {n : Nat}
theorem ren_none : AObj.ren r .none = .none := rfl
theorem ren_var {cs : List AV} : AObj.ren r (.var cs) = .var (AV.renL r cs) := rfl
theorem ren_arr {ty : TypeId} {sz : Nat} {xs : List (List D)} : AObj.ren r (.arr ty sz xs) = .arr ty sz xs := rfl
theorem ren_map {es : List (D × D)} : AObj.ren r (.map es) = .map es := rfl
theorem ren_mapb {es : List (D × D)} {bs : List Nat} {c : Nat} : AObj.ren r (.mapb es bs c) = .mapb es bs c := rfl
theorem ren_iter {m c : Nat} {bs idx : List Nat} : AObj.ren r (.iter m bs c idx) = .iter (r m) bs c idx := rfl
theorem ren_loop {fn : FuncId} {t : List AV} {ps : List Tmp} {a b : Code} {st : Option (Option Code)} : AObj.ren r (.loop fn t ps a b st) = .loop fn (AV.renL r t) ps a b st := rfl
theorem ren_defr : AObj.ren r .defr = .defr := rfl
theorem bel_none : AObj.bel n .none = true := rfl
theorem bel_var {cs : List AV} : AObj.bel n (.var cs) = AV.belL n cs := rfl
theorem bel_arr {ty : TypeId} {sz : Nat} {xs : List (List D)} : AObj.bel n (.arr ty sz xs) = true := rfl
theorem bel_map {es : List (D × D)} : AObj.bel n (.map es) = true := rfl
theorem bel_mapb {es : List (D × D)} {bs : List Nat} {c : Nat} : AObj.bel n (.mapb es bs c) = true := rfl
theorem bel_iter {m c : Nat} {bs idx : List Nat} : AObj.bel n (.iter m bs c idx) = decide (m < n) := rfl
theorem bel_loop {fn : FuncId} {t : List AV} {ps : List Tmp} {a b : Code} {st : Option (Option Code)} : AObj.bel n (.loop fn t ps a b st) = AV.belL n t := rfl
theorem bel_defr : AObj.bel n .defr = true := rfl
end
/-! Telling anew, by what can be seen -/
def sbl (r : Nat → Nat) (n : Nat) (H : List AObj) : List Nat → List AObj → Prop
  | [], [] => True
  | i :: σ, o :: os => (o = .none ∨ (H[i]? = some (o.ren r) ∧ o.bel n = true)) ∧ sbl r n H σ os
  | _, _ => False
theorem sbl_get {r : Nat → Nat} {n : Nat} {H : List AObj} : ∀ {σ : List Nat} {os : List AObj}, sbl r n H σ os → os.length = σ.length ∧ ∀ (j i : Nat) (o : AObj), σ[j]? = some i → os[j]? = some o → o.live = true → H[i]? = some (o.ren r) ∧ o.bel n = true
  | [], [], _ => ⟨rfl, fun j i o h => by simp at h⟩
  | i :: σ, o :: os, h => by
    obtain ⟨h1, h2⟩ := h
    obtain ⟨h3, h4⟩ := sbl_get h2
    refine ⟨by simp [h3], fun j i' o' a b c => ?_⟩
    cases j with
    | zero =>
      simp at a b
      subst a b
      rcases h1 with h1 | h1
      · rw [h1] at c; cases c
      · exact h1
    | succ j => exact h4 j i' o' (by simpa using a) (by simpa using b) c
  | [], _ :: _, h => h.elim
  | _ :: _, [], h => h.elim
theorem WK.pick {E : Env} {n0 : Nat} {K : K3} {t : List AV} {H : List AObj} (σ : List Nat) {t' : List AV} {H' : List AObj} (hs : sbl (rn σ H.length) σ.length H σ H') (hnd : σ.Nodup) (hin : ∀ i ∈ σ, i < H.length)
    (ht : tellL (rn σ H.length) σ.length t' t) (hn0 : ∀ id, id < n0 → σ[id]? = some id) (k : WK E n0 K t' H' []) : WK E n0 K t H [] :=
  WK.sel σ ⟨(sbl_get hs).1, hnd, hin, (sbl_get hs).2⟩ ht hn0 k

/-! Loops -/
def Qloop (E : Env) (n0 : Nat) (I : Nat → K3) (k : Nat) (Q : Q3) : Q3 := fun e t H ds => match e with
  | .normal => ∃ k', k' < k ∧ WK E n0 (I k') t H ds
  | e => Q e t H ds
section
variable {E : Env} {n0 : Nat} {I : Nat → K3} {k : Nat} {Q : Q3} {t : List AV} {H : List AObj} {ds : List Nat}
theorem Qloop_normal : Qloop E n0 I k Q .normal t H ds = ∃ k', k' < k ∧ WK E n0 (I k') t H ds := rfl
theorem Qloop_ret : Qloop E n0 I k Q .ret t H ds = Q .ret t H ds := rfl
theorem Qloop_exit {i : Nat} : Qloop E n0 I k Q (.exit i) t H ds = Q (.exit i) t H ds := rfl
theorem ALoop.mk {body : Q3 → K3} (I : Nat → K3) (k0 : Nat) (h0 : WK E n0 (I k0) t H ds) (hr : ∀ k t H ds, I k t H ds → body (Qloop E n0 I k Q) t H ds) : ALoop E n0 body Q t H ds :=
  ⟨I, ⟨k0, h0⟩, hr⟩
end
/-! Loops over functions -/
noncomputable def QasgL (E : Env) (n0 id : Nat) (body : Code) (K : AV → List AObj → Prop) : Q3 := fun e t H ds => match e with
  | .normal => ∃ fn t' ps a, H[id]? = some (.loop fn t' ps a body (some none)) ∧ awpL E n0 true body (Qrnd E n0 id K) t (H.set id (.loop fn t' ps a body none)) ds
  | _ => False
section
variable {E : Env} {n0 : Nat} {Q : Q3} {t : List AV} {H : List AObj} {ds : List Nat} {a b : Code}
theorem QasgL_eq {id : Nat} {K : AV → List AObj → Prop} : Qasg E n0 id b K = QasgL E n0 id b K := by
  funext e t H ds
  unfold Qasg QasgL
  rw [awpL_eq]
  cases e <;> rfl
theorem QasgL_normal {id : Nat} {K : AV → List AObj → Prop} : QasgL E n0 id b K .normal t H ds = ∃ fn t' ps a, H[id]? = some (.loop fn t' ps a b (some none)) ∧ awpL E n0 true b (Qrnd E n0 id K) t (H.set id (.loop fn t' ps a b none)) ds := rfl
/-- A round: its code, walked where it is called. -/
theorem AYield.mk (hE : EnvOk E) {id : Nat} {args : List AV} {K : AV → List AObj → Prop} {fn : FuncId} {t : List AV} {ps : List Tmp} {assign body : Code}
    (ho : H[id]? = some (.loop fn t ps assign body (some none))) (hl : args.length = ps.length) (h : awpL E H.length true assign (QasgL E H.length id body K) (putPs t ps args) H []) : AYield E id args H K :=
  ayield_of hE ho hl (by rw [← awpL_eq, QasgL_eq]; exact h)
theorem AYield.skip (hE : EnvOk E) {id : Nat} {args : List AV} {K : AV → List AObj → Prop} {fn : FuncId} {t : List AV} {ps : List Tmp} {body : Code}
    (ho : H[id]? = some (.loop fn t ps .skip body (some none))) (hl : args.length = ps.length) (h : awpL E H.length true body (Qrnd E H.length id K) (putPs t ps args) (H.set id (.loop fn t ps .skip body none)) []) : AYield E id args H K :=
  AYield.mk hE ho hl (by rw [awpL_skip]; exact ⟨fn, t, ps, .skip, ho, h⟩)
theorem ARng.func {f : FuncId} {caps : List AV} {ps : List Tmp} (h : ∀ fn, ACalls E f (.yield (H.length + 1) :: caps) (H ++ [.defr, .loop fn t ps a b (some none)]) (fun _ H' => Krng E n0 Q (H.length + 1) t (H.length :: ds) H')) :
    ARng E n0 (.func f caps) t H ds ps a b Q := h
theorem ARng.funcG {f : FuncId} {caps : List AV} {ps : List Tmp} (h : ∀ fn lo, lo = .loop fn t ps a b (some none) → ACalls E f (.yield (H.length + 1) :: caps) (H ++ [.defr, lo]) (fun _ H' => Krng E n0 Q (H.length + 1) t (H.length :: ds) H')) :
    ARng E n0 (.func f caps) t H ds ps a b Q := fun fn => h fn _ rfl
theorem ARng.dfuncG {f : FuncId} {caps : List D} {ps : List Tmp} (h : ∀ fn lo, lo = .loop fn t ps a b (some none) → ACalls E f (.yield (H.length + 1) :: caps.map .d) (H ++ [.defr, lo]) (fun _ H' => Krng E n0 Q (H.length + 1) t (H.length :: ds) H')) :
    ARng E n0 (.d (.func f caps)) t H ds ps a b Q := fun fn => h fn _ rfl
theorem ARng.dfunc {f : FuncId} {caps : List D} {ps : List Tmp} (h : ∀ fn, ACalls E f (.yield (H.length + 1) :: caps.map .d) (H ++ [.defr, .loop fn t ps a b (some none)]) (fun _ H' => Krng E n0 Q (H.length + 1) t (H.length :: ds) H')) :
    ARng E n0 (.d (.func f caps)) t H ds ps a b Q := h
theorem Krng.go {l : Nat} {fn : FuncId} {t' : List AV} {ps : List Tmp} (h : H[l]? = some (.loop fn t' ps a b (some none))) (k : WK E n0 (Q .normal) t (H.set l .none) ds) : Krng E n0 Q l t ds H := ⟨fn, t', ps, a, b, none, h, k⟩
theorem Krng.ret {l : Nat} {fn : FuncId} {t' : List AV} {ps : List Tmp} (h : H[l]? = some (.loop fn t' ps a b (some (some .ret)))) (k : WK E n0 (Q .ret) t (H.set l .none) ds) : Krng E n0 Q l t ds H := ⟨fn, t', ps, a, b, _, h, k⟩
theorem Krng.exit {l i : Nat} {fn : FuncId} {t' : List AV} {ps : List Tmp} (h : H[l]? = some (.loop fn t' ps a b (some (some (.exit i))))) (k : WK E n0 (Q (.exit i)) t (H.set l .none) ds) : Krng E n0 Q l t ds H := ⟨fn, t', ps, a, b, _, h, k⟩
theorem Qrnd_normal {id : Nat} {K : AV → List AObj → Prop} : Qrnd E n0 id K .normal t H ds = WK E n0 (fun _ H' _ => ∃ fn t' ps a b, H'[id]? = some (.loop fn t' ps a b none) ∧ K (.d (.bool true)) (H'.set id (.loop fn t' ps a b (some none)))) t H ds := rfl
theorem Qrnd_ret {id : Nat} {K : AV → List AObj → Prop} : Qrnd E n0 id K .ret t H ds = WK E n0 (fun _ H' _ => ∃ fn t' ps a b, H'[id]? = some (.loop fn t' ps a b none) ∧ K (.d (.bool false)) (H'.set id (.loop fn t' ps a b (some (some .ret))))) t H ds := rfl
theorem Qrnd_exit {id i : Nat} {K : AV → List AObj → Prop} : Qrnd E n0 id K (.exit i) t H ds = WK E n0 (fun _ H' _ => ∃ fn t' ps a b, H'[id]? = some (.loop fn t' ps a b none) ∧ K (.d (.bool false)) (H'.set id (.loop fn t' ps a b (some (some (.exit i)))))) t H ds := rfl
theorem Rng.mk {m : Nat} {es : List (D × D)} {K : AV → List AObj → Prop} (h : ∀ (bs : List Nat) (clk : Nat), bs.length = es.length → bs.Nodup → (∀ x ∈ bs, x < clk) → K (.pvar H.length 0) (H.set m (.mapb es bs clk) ++ [.iter m bs clk []])) : Rng m es H K := h
theorem Nxt.mk {i m clk : Nat} {bs idx : List Nat} {es : List (D × D)} {K : AV → List AObj → Prop} (h0 : ∀ j ∈ idx, j < es.length)
    (h1 : ∀ j, j < es.length → j ∉ idx → K (.d (.tup [.bool true, (entryOf es j).1, (entryOf es j).2])) (H.set i (.iter m bs clk (idx ++ [j])))) (h2 : (∀ j, j < es.length → j ∈ idx) → K (.d (.tup [.bool false])) H) : Nxt i m bs clk idx es H K := ⟨h0, h1, h2⟩
/-- A map that was ranged over, told as a map again. -/
theorem WK.unb {K : K3} (m : Nat) {es : List (D × D)} {bs : List Nat} {clk : Nat} (hm : H[m]? = some (.mapb es bs clk)) (k : WK E n0 K t (H.set m (.map es)) ds) : WK E n0 K t H ds :=
  WK.step (fun w F Γ tm df hS hT hD hn => by
    have hlt : m < Γ.length := by rw [hS.len]; exact (List.getElem?_eq_some_iff.1 hm).1
    obtain ⟨s, hs⟩ : ∃ s, Γ[m]? = some s := ⟨_, List.getElem?_eq_getElem hlt⟩
    obtain ⟨b, arr, h1, h2, h3, h4, h5, h6, h7⟩ := hS.obj m s _ hs hm
    refine ⟨F, Γ, sr_retell hS hs hm rfl ⟨b, arr, clk, h1, h2, h3, fun i k v hi => ?_, fun i j mi mj hi hj he => ?_⟩, hT, hD, ext_retell hn hm rfl⟩
    · obtain ⟨me, m1, m2, m3, m4⟩ := h5 i k v hi
      exact ⟨me, m1, m2, m3, h7 _ (List.mem_of_getElem? m4)⟩
    · have born : ∀ (i : Nat) (mi : MapEntry), arr[i]? = some mi → bs[i]? = some mi.born := fun i mi hi => by
        have hil : i < es.length := by rw [← h3]; exact (Array.getElem?_eq_some_iff.1 hi).1
        obtain ⟨me, n1, _, _, n4⟩ := h5 i es[i].1 es[i].2 (List.getElem?_eq_getElem hil)
        rw [hi] at n1
        obtain rfl := Option.some.inj n1
        exact n4
      have hil : i < bs.length := (List.getElem?_eq_some_iff.1 (born i mi hi)).1
      exact (List.getElem?_inj hil h6).1 (by rw [born i mi hi, born j mj hj, he])) k
end
/-- Whether a thing is so. -/
noncomputable def B (p : Prop) : Bool := @decide p (Classical.propDecidable p)
theorem B_true {p : Prop} (h : p) : B p = true := by simp [B, h]
theorem B_false {p : Prop} (h : ¬ p) : B p = false := by simp [B, h]
theorem B_True : B True = true := B_true trivial
theorem B_False : B False = false := B_false id
theorem B_iff {p : Prop} : B p = true ↔ p := by simp [B]
theorem B_not {p : Prop} : B p = false ↔ ¬ p := by simp [B]
theorem B_dec {p : Prop} [Decidable p] : decide p = B p := by by_cases h : p <;> simp [B, h]
theorem beq_nat (m n : Nat) : ((m : Int) == (n : Int)) = B (m = n) := by
  rw [← B_dec, Bool.eq_iff_iff]; simp; omega
theorem bne_nat (m n : Nat) : ((m : Int) != (n : Int)) = B (m ≠ n) := by
  rw [← B_dec, Bool.eq_iff_iff]; simp; omega
theorem succ64 {i n : Nat} (h : i < n) (hn : n ≤ 4611686018427387904) : IntKind.wrap .i64 ((i : Int) + 1) = ((i + 1 : Nat) : Int) := by
  rw [wrapi (by omega) (by omega)]; rfl
theorem ACalls.thus {E : Env} {g : FuncId} {as : List AV} {H H1 : List AObj} {v : AV} {K : AV → List AObj → Prop} (h : ACalls E g as H fun r H' => r = v ∧ H' = H1) (hK : K v H1) : ACalls E g as H K :=
  h.mono fun r H' ⟨h1, h2⟩ => by subst h1 h2; exact hK
theorem PCall.quiet' {E : Env} {H : List AObj} {g : FuncId} {args : List D} {r : D} (h : PCall E g args r) {as : List AV} {K : AV → Prop} (ha : argsOk args as) (hK : K (.d r)) : QC E g as H K := h.hush ha hK
end Go.Abs
