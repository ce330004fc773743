/-
  The operations that change nothing: what each yields, over descriptions ('apure'), and that the machine's operation yields a value so described.
-/
import Derived.Test.YtjljjakfebfpfaaDoorAbs1
set_option autoImplicit false
set_option linter.unusedVariables false
set_option linter.unusedSimpArgs false
namespace Go.Abs

/-- Two ways behind a test: what stands behind it waits. -/
def Br (b : Bool) (x y : Prop) : Prop := (b = true → x) ∧ (b = false → y)
@[congr] theorem Br_congr {b b' : Bool} {x y : Prop} (h : b = b') : Br b x y = Br b' x y := by rw [h]
theorem Br_true (x y : Prop) : Br true x y = x := by simp [Br]
theorem Br_false (x y : Prop) : Br false x y = y := by simp [Br]
theorem Br.mk {b : Bool} {x y : Prop} (h1 : b = true → x) (h2 : b = false → y) : Br b x y := ⟨h1, h2⟩

def cst : Value → AV
  | .int k n => .d (.int k n)
  | .bool b => .d (.bool b)
  | .string s => .d (.str s)
  | .pointer none => .d .nilp
  | .nilFunc => .d .nilf
  | .nilIface => .d .nili
  | .map none => .d .nilm
  | .slice none 0 0 => .d .nils
  | _ => .dead

def ev (E : Env) (t : List AV) : Operand → AV
  | .tmp i => t.getD i .dead
  | .const v => cst v
  | .global g => match E.gl g with
    | some (sz, xs) => .pval sz xs 0 0
    | none => .dead
  | .func f => .d (.func f [])

theorem cst_ok (w : World) (F : Nat → Prop) (Γ : List Slot) (v : Value) : RV w F Γ (cst v) v := by
  unfold cst
  split
  · exact .d (.int _ _)
  · exact .d (.bool _)
  · exact .d (.str _)
  · exact .d .nilp
  · exact .d .nilf
  · exact .d .nili
  · exact .d .nilm
  · exact .d .nils
  · exact .dead _

theorem RV.weakΓ {w : World} {F : Nat → Prop} {Γ : List Slot} {d : AV} {v : Value} (h : RV w F [] d v) : RV w F Γ d v :=
  h.mono (fun _ h => h) (fun _ _ => rfl) (fun id s hs => by simp at hs)

theorem ev_ok {E : Env} {w : World} {F : Nat → Prop} {Γ : List Slot} {H : List AObj} (hS : SR E w F Γ H) {t : List AV} {a : Act} (hT : RT w F Γ t a.tmps) :
    ∀ x, RV w F Γ (ev E t x) (a.eval x) := by
  intro x
  cases x with
  | tmp i =>
    simp only [ev, Act.eval]
    rw [List.getD_eq_getElem?_getD]
    cases h : t[i]? with
    | none => exact .dead _
    | some av => exact hT.2 i av h
  | const v => exact cst_ok w F Γ v
  | global g =>
    simp only [ev, Act.eval]
    cases h : E.gl g with
    | none => exact .dead _
    | some p => obtain ⟨sz, xs⟩ := p; exact (hS.glob g sz xs h).weakΓ
  | func f => exact .d (.func f [] #[] rfl (fun j d h => by simp at h))

def allD : List AV → Option (List D)
  | [] => some []
  | .d x :: r => match allD r with
    | some l => some (x :: l)
    | none => none
  | _ :: _ => none
theorem allD_some : ∀ {cs : List AV} {l : List D}, allD cs = some l → cs = l.map .d
  | [], l, h => by simp [allD] at h; subst h; rfl
  | a :: r, l, h => by
    cases a <;> simp only [allD, reduceCtorEq] at h
    rename_i x
    cases hr : allD r with
    | none => simp [hr] at h
    | some l' => simp [hr] at h; subst h; simp [allD_some hr]

def mkAgg (cs : List AV) : AV := match allD cs with
  | some l => .d (.agg l)
  | none => .agg cs
def mkTup (cs : List AV) : AV := match allD cs with
  | some l => .d (.tup l)
  | none => .tup cs
def mkFunc (f : FuncId) (cs : List AV) : AV := match allD cs with
  | some l => .d (.func f l)
  | none => .func f cs
def mkIface (t : TypeId) : AV → AV
  | .d x => .d (.iface t x)
  | v => .iface t v

theorem RV.of_d {w : World} {F : Nat → Prop} {Γ : List Slot} {x : D} {v : Value} (h : RV w F Γ (.d x) v) : RD w F x v := by cases h; assumption

theorem mkAgg_ok {w : World} {F : Nat → Prop} {Γ : List Slot} (cs : List AV) (vs : Array Value) (hs : vs.size = cs.length) (h1 : ∀ j, j < vs.size → (vs.getD j undef).oneCell' = true)
    (hr : ∀ j d, cs[j]? = some d → RV w F Γ d (vs.getD j undef)) : RV w F Γ (mkAgg cs) (.agg vs) := by
  unfold mkAgg
  split
  · rename_i l h
    have := allD_some h
    subst this
    refine .d (.agg l vs (by simpa using hs) h1 (fun j d hj => ?_))
    exact (hr j (.d d) (by simp [hj])).of_d
  · exact .agg cs vs hs h1 hr
theorem mkTup_ok {w : World} {F : Nat → Prop} {Γ : List Slot} (cs : List AV) (vs : Array Value) (hs : vs.size = cs.length)
    (hr : ∀ j d, cs[j]? = some d → RV w F Γ d (vs.getD j undef)) : RV w F Γ (mkTup cs) (.tuple vs) := by
  unfold mkTup
  split
  · rename_i l h
    have := allD_some h
    subst this
    refine .d (.tup l vs (by simpa using hs) (fun j d hj => ?_))
    exact (hr j (.d d) (by simp [hj])).of_d
  · exact .tup cs vs hs hr
theorem mkFunc_ok {w : World} {F : Nat → Prop} {Γ : List Slot} (f : FuncId) (cs : List AV) (vs : Array Value) (hs : vs.size = cs.length)
    (hr : ∀ j d, cs[j]? = some d → RV w F Γ d (vs.getD j undef)) : RV w F Γ (mkFunc f cs) (.func (.func f) #[] vs) := by
  unfold mkFunc
  split
  · rename_i l h
    have := allD_some h
    subst this
    refine .d (.func f l vs (by simpa using hs) (fun j d hj => ?_))
    exact (hr j (.d d) (by simp [hj])).of_d
  · exact .func f cs vs hs hr
theorem mkIface_ok {w : World} {F : Nat → Prop} {Γ : List Slot} (t : TypeId) {av : AV} {v : Value} (h : RV w F Γ av v) : RV w F Γ (mkIface t av) (.iface t v) := by
  cases av <;> simp only [mkIface] <;> first | exact .iface t _ _ h | exact .d (.iface t _ _ h.of_d)

def D.cells : D → Option (List D)
  | .agg ds => some ds
  | .tup _ => none
  | .int k n => some [.int k n]
  | .bool b => some [.bool b]
  | .str s => some [.str s]
  | .nilp => some [.nilp]
  | .nilf => some [.nilf]
  | .nili => some [.nili]
  | .nilm => some [.nilm]
  | .nils => some [.nils]
  | .slice sz xs => some [.slice sz xs]
  | .iface t v => some [.iface t v]
  | .func f cs => some [.func f cs]
  | .ptr a => some [.ptr a]
def AV.cells : AV → Option (List AV)
  | .dead => none
  | .d x => match x.cells with
    | some l => some (l.map .d)
    | none => none
  | .pvar id k => some [.pvar id k]
  | .parr id i k => some [.parr id i k]
  | .pval sz xs i k => some [.pval sz xs i k]
  | .svalf sz xs => some [.svalf sz xs]
  | .sfull id => some [.sfull id]
  | .spart id lo n => some [.spart id lo n]
  | .mapo id => some [.mapo id]
  | .func f cs => some [.func f cs]
  | .yield id => some [.yield id]
  | .iface t v => some [.iface t v]
  | .agg cs => some cs
  | .tup _ => none

theorem cells_one {w : World} {F : Nat → Prop} {Γ : List Slot} {av : AV} {v : Value} (h : RV w F Γ av v) (hv : v.cells = #[v]) (h1 : v.oneCell' = true) {cs : List AV} (hc : cs = [av]) :
    v.cells.size = cs.length ∧ (∀ j, j < v.cells.size → (v.cells.getD j undef).oneCell' = true) ∧ ∀ j d, cs[j]? = some d → RV w F Γ d (v.cells.getD j undef) := by
  subst hc
  rw [hv]
  refine ⟨rfl, fun j hj => ?_, fun j d hj => ?_⟩
  · obtain rfl : j = 0 := by simpa using hj
    simpa using h1
  cases j with
  | zero => simp at hj; subst hj; simpa using h
  | succ j => simp at hj

theorem cells_ok {w : World} {F : Nat → Prop} {Γ : List Slot} {av : AV} {v : Value} (h : RV w F Γ av v) {cs : List AV} (hc : av.cells = some cs) :
    v.cells.size = cs.length ∧ (∀ j, j < v.cells.size → (v.cells.getD j undef).oneCell' = true) ∧ ∀ j d, cs[j]? = some d → RV w F Γ d (v.cells.getD j undef) := by
  cases h with
  | dead v => simp [AV.cells] at hc
  | tup _ _ _ _ => simp [AV.cells] at hc
  | agg cs' vs hs h1 hr => simp only [AV.cells, Option.some.injEq] at hc; subst hc; exact ⟨hs, h1, hr⟩
  | d h =>
    cases h with
    | tup _ _ _ _ => simp [AV.cells, D.cells] at hc
    | agg ds vs hs h1 hr =>
      simp only [AV.cells, D.cells, Option.some.injEq] at hc
      subst hc
      refine ⟨by simpa [Value.cells] using hs, h1, fun j d hj => ?_⟩
      · rw [List.getElem?_map] at hj
        cases hx : ds[j]? with
        | none => simp [hx] at hj
        | some x => simp [hx] at hj; subst hj; exact .d (hr j x hx)
    | slice sz xs A c f h1 h2 h3 h4 h5 =>
      simp only [AV.cells, D.cells, Option.some.injEq] at hc
      exact cells_one (.d (.slice sz xs A c f h1 h2 h3 h4 h5)) rfl rfl (by simpa using hc.symm)
    | iface t d v hr =>
      simp only [AV.cells, D.cells, Option.some.injEq] at hc
      exact cells_one (.d (.iface t d v hr)) rfl rfl (by simpa using hc.symm)
    | func f cs' vs hs hr =>
      simp only [AV.cells, D.cells, Option.some.injEq] at hc
      exact cells_one (.d (.func f cs' vs hs hr)) rfl rfl (by simpa using hc.symm)
    | ptr a =>
      simp only [AV.cells, D.cells, Option.some.injEq] at hc
      exact cells_one (.d (.ptr a)) rfl rfl (by simpa using hc.symm)
    | int k n =>
      simp only [AV.cells, D.cells, Option.some.injEq] at hc
      exact cells_one (.d (.int k n)) rfl rfl (by simpa using hc.symm)
    | bool b =>
      simp only [AV.cells, D.cells, Option.some.injEq] at hc
      exact cells_one (.d (.bool b)) rfl rfl (by simpa using hc.symm)
    | str s =>
      simp only [AV.cells, D.cells, Option.some.injEq] at hc
      exact cells_one (.d (.str s)) rfl rfl (by simpa using hc.symm)
    | nilp =>
      simp only [AV.cells, D.cells, Option.some.injEq] at hc
      exact cells_one (.d .nilp) rfl rfl (by simpa using hc.symm)
    | nilf =>
      simp only [AV.cells, D.cells, Option.some.injEq] at hc
      exact cells_one (.d .nilf) rfl rfl (by simpa using hc.symm)
    | nili =>
      simp only [AV.cells, D.cells, Option.some.injEq] at hc
      exact cells_one (.d .nili) rfl rfl (by simpa using hc.symm)
    | nilm =>
      simp only [AV.cells, D.cells, Option.some.injEq] at hc
      exact cells_one (.d .nilm) rfl rfl (by simpa using hc.symm)
    | nils =>
      simp only [AV.cells, D.cells, Option.some.injEq] at hc
      exact cells_one (.d .nils) rfl rfl (by simpa using hc.symm)
  | pvar hs hb => simp only [AV.cells, Option.some.injEq] at hc; exact cells_one (.pvar hs hb) rfl rfl hc.symm
  | parr hs hb => simp only [AV.cells, Option.some.injEq] at hc; exact cells_one (.parr hs hb) rfl rfl hc.symm
  | pval h hi => simp only [AV.cells, Option.some.injEq] at hc; exact cells_one (.pval h hi) rfl rfl hc.symm
  | svalf h => simp only [AV.cells, Option.some.injEq] at hc; exact cells_one (.svalf h) rfl rfl hc.symm
  | sfull hs hA => simp only [AV.cells, Option.some.injEq] at hc; exact cells_one (.sfull hs hA) rfl rfl hc.symm
  | spart hs hn ha => simp only [AV.cells, Option.some.injEq] at hc; exact cells_one (.spart hs hn ha) rfl rfl hc.symm
  | mapo hs hb => simp only [AV.cells, Option.some.injEq] at hc; exact cells_one (.mapo hs hb) rfl rfl hc.symm
  | func f cs' vs hs hr => simp only [AV.cells, Option.some.injEq] at hc; exact cells_one (.func f cs' vs hs hr) rfl rfl hc.symm
  | yield hs hb => simp only [AV.cells, Option.some.injEq] at hc; exact cells_one (.yield hs hb) rfl rfl hc.symm
  | iface t d v hr => simp only [AV.cells, Option.some.injEq] at hc; exact cells_one (.iface t d v hr) rfl rfl hc.symm

/-! ### Reading -/
/-- How a type is loaded: as one cell, or as so many. -/
def ldK (E : Env) (T : TypeId) : Option (Option Nat) := match E.ty T with
  | none => none
  | some i => match i.k with
    | .struct _ => some (some i.size)
    | .array _ _ => some (some i.size)
    | .int _ => some none
    | .bool => some none
    | .string => some none
    | .slice _ => some none
    | .map _ _ => some none
    | .ptr _ => some none
    | .iface => some none
    | .func => some none
    | .tuple => some none
def cel (xs : List (List D)) (i k : Nat) : D := (xs.getD i []).getD k .nilp
def seg (xs : List (List D)) (i k n : Nat) : List D := ((xs.getD i []).drop k).take n
def rdRow (E : Env) (T : TypeId) (sz : Nat) (xs : List (List D)) (i k : Nat) (K : AV → Prop) : Prop := match ldK E T with
  | some none => i < xs.length ∧ k < sz ∧ K (.d (cel xs i k))
  | some (some n) => i < xs.length ∧ k + n ≤ sz ∧ K (.d (.agg (seg xs i k n)))
  | none => False
def aload (E : Env) (T : TypeId) (H : List AObj) (K : AV → Prop) : AV → Prop
  | .pvar id k => match H.getD id .none with
    | .var cs => match ldK E T with
      | some none => match cs[k]? with
        | some av => K av
        | none => False
      | some (some n) => k + n ≤ cs.length ∧ K (mkAgg ((cs.drop k).take n))
      | none => False
    | _ => False
  | .parr id i k => match H.getD id .none with
    | .arr _ sz xs => rdRow E T sz xs i k K
    | _ => False
  | .pval sz xs i k => rdRow E T sz xs i k K
  | _ => False

section
variable {E : Env} (hE : EnvOk E) {w : World} {F : Nat → Prop} {Γ : List Slot} {H : List AObj}

theorem run_ty {t : TypeId} {i : TI} (hE : EnvOk E) (h : E.ty t = some i) : ∃ d, i.k.fits d ∧ ∀ w, (underlying t).run E.P w = .ok d w := by
  obtain ⟨d, h1, h2⟩ := hE.desc t i h
  exact ⟨d, h2, fun w => run_underlying h1 w⟩
theorem run_sz {t : TypeId} {i : TI} (hE : EnvOk E) (h : E.ty t = some i) (w : World) : (sizeOf t).run E.P w = .ok i.size w := by
  obtain ⟨inf, z, h1, h2, _⟩ := hE.info t i h
  simp [sizeOf, typeInfo, h1, h2]
theorem run_agg_none {t : TypeId} (hE : EnvOk E) (h : ldK E t = some none) (w : World) : (isAgg t).run E.P w = .ok false w := by
  unfold ldK at h
  cases hi : E.ty t with
  | none => simp [hi] at h
  | some i =>
    simp only [hi] at h
    obtain ⟨d, hf, hr⟩ := run_ty hE hi
    simp only [isAgg, Sem.run_bind, hr, Result.andThen_ok]
    cases hd : i.k <;> simp only [hd, Kd.fits, reduceCtorEq, Option.some.injEq] at h hf
    all_goals first
      | (subst hf; rfl)
      | (obtain ⟨_, rfl⟩ := hf; rfl)
      | (obtain ⟨_, _, _, rfl⟩ := hf; rfl)
theorem run_agg_some {t : TypeId} {n : Nat} (hE : EnvOk E) (h : ldK E t = some (some n)) (w : World) :
    (isAgg t).run E.P w = .ok true w ∧ (sizeOf t).run E.P w = .ok n w := by
  unfold ldK at h
  cases hi : E.ty t with
  | none => simp [hi] at h
  | some i =>
    simp only [hi] at h
    obtain ⟨d, hf, hr⟩ := run_ty hE hi
    simp only [isAgg, Sem.run_bind, hr, Result.andThen_ok, run_sz hE hi]
    cases hd : i.k <;> simp only [hd, Kd.fits, reduceCtorEq, Option.some.injEq] at h hf
    · subst hf; exact ⟨rfl, by rw [h]⟩
    · obtain ⟨_, rfl, _⟩ := hf; exact ⟨rfl, by rw [h]⟩

theorem run_load_some {P : Program} {a : Addr} {v : Value} {w : World} (h : w.cell? a = some v) : (load a).run P w = .ok v w := by simp [h]

theorem run_loadCellsFrom {P : Program} {w : World} {a : Addr} : ∀ (n i : Nat) (acc : Array Value) (f : Nat → Value), (∀ j, j < n → w.cell? (a.add (i + j)) = some (f j)) →
    (loadCellsFrom a i n acc).run P w = .ok (acc ++ (List.ofFn (n := n) fun j => f j.1).toArray) w
  | 0, i, acc, f, h => by simp [loadCellsFrom]
  | n + 1, i, acc, f, h => by
    have h0 : w.cell? (a.add i) = some (f 0) := by simpa using h 0 (by omega)
    simp only [loadCellsFrom, Sem.run_bind, run_load_some h0, Result.andThen_ok]
    rw [run_loadCellsFrom n (i + 1) (acc.push (f 0)) (fun j => f (j + 1)) (fun j hj => by
      have := h (j + 1) (by omega)
      rwa [show i + (j + 1) = i + 1 + j by omega] at this)]
    congr 1
    apply Array.toList_inj.1
    simp [List.ofFn_succ]

theorem run_loadVar_one {t : TypeId} {a : Addr} {v : Value} {w : World} (hE : EnvOk E) (h : ldK E t = some none) (hc : w.cell? a = some v) : (loadVar t a).run E.P w = .ok v w := by
  simp only [loadVar, Sem.run_bind, run_agg_none hE h, Result.andThen_ok]
  simpa using run_load_some hc
theorem run_loadVar_agg {t : TypeId} {n : Nat} {a : Addr} {w : World} (hE : EnvOk E) (h : ldK E t = some (some n)) (f : Nat → Value) (hc : ∀ j, j < n → w.cell? (a.add j) = some (f j)) :
    (loadVar t a).run E.P w = .ok (.agg (List.ofFn (n := n) fun j => f j.1).toArray) w := by
  simp only [loadVar, Sem.run_bind, (run_agg_some hE h w).1, (run_agg_some hE h w).2, Result.andThen_ok, if_true, loadCells]
  rw [run_loadCellsFrom n 0 #[] f (by simpa using hc)]
  simp

theorem ofFn_getD (n : Nat) (f : Nat → Value) (j : Nat) (h : j < n) : ((List.ofFn (n := n) fun j => f j.1).toArray).getD j undef = f j := by
  simp [Array.getD_eq_getD_getElem?, h]

/-- A row that a datum shows, cell by cell. -/
theorem RD.slice_inv {sz : Nat} {xs : List (List D)} {v : Value} (h : RD w F (.slice sz xs) v) : ∃ A c, v = .slice A xs.length c ∧ xs.length ≤ c ∧ (0 < xs.length → A.isSome = true) ∧ (∀ x ∈ xs, x.length = sz) ∧
    (∀ i k, i < xs.length → k < sz → ∃ a u, A = some a ∧ F a.block ∧ u.oneCell' = true ∧ w.cell? (a.add (i * sz + k)) = some u ∧ RD w F (cel xs i k) u) := by
  cases h with
  | slice sz xs A c f hc ha hl hm hr =>
    refine ⟨A, c, rfl, hc, ha, hl, fun i k hi hk => ?_⟩
    have hx : xs[i]? = some xs[i] := List.getElem?_eq_getElem hi
    have hlen : xs[i].length = sz := hl _ (List.getElem_mem hi)
    have hd : xs[i][k]? = some (xs[i][k]'(by omega)) := List.getElem?_eq_getElem (by omega)
    have e : cel xs i k = xs[i][k]'(by omega) := by simp [cel, List.getD_eq_getElem?_getD, hx, hd]
    obtain ⟨h1, a, ha, hb, hcell⟩ := hm i _ k _ hx hd
    exact ⟨a, f i k, ha, hb, h1, hcell, by rw [e]; exact hr i _ k _ hx hd⟩

theorem seg_get {sz : Nat} {xs : List (List D)} (hl : ∀ x ∈ xs, x.length = sz) {i k n : Nat} (hi : i < xs.length) (hk : k + n ≤ sz) :
    (seg xs i k n).length = n ∧ ∀ j d, (seg xs i k n)[j]? = some d → j < n ∧ d = cel xs i (k + j) := by
  have hx : xs[i]? = some xs[i] := List.getElem?_eq_getElem hi
  have hlen : xs[i].length = sz := hl _ (List.getElem_mem hi)
  have e : seg xs i k n = (xs[i].drop k).take n := by simp [seg, List.getD_eq_getElem?_getD, hx]
  refine ⟨by rw [e]; simp; omega, fun j d hj => ?_⟩
  rw [e, List.getElem?_take] at hj
  split at hj
  · rename_i hjn
    refine ⟨hjn, ?_⟩
    rw [List.getElem?_drop] at hj
    simp [cel, List.getD_eq_getElem?_getD, hx, hj]
  · simp at hj

theorem rdRow_ok (hE : EnvOk E) {T : TypeId} {sz : Nat} {xs : List (List D)} {i k : Nat} {K : AV → Prop} (h : rdRow E T sz xs i k K) {a : Addr} (hl : ∀ x ∈ xs, x.length = sz)
    (hc : ∀ k, i < xs.length → k < sz → ∃ u, u.oneCell' = true ∧ w.cell? (a.add k) = some u ∧ RD w F (cel xs i k) u) :
    ∃ v av, (loadVar T (a.add k)).run E.P w = .ok v w ∧ K av ∧ RV w F Γ av v := by
  unfold rdRow at h
  split at h
  · rename_i hT
    obtain ⟨hi, hk, hK⟩ := h
    obtain ⟨u, _, hu, hd⟩ := hc k hi hk
    exact ⟨u, _, run_loadVar_one hE hT hu, hK, .d hd⟩
  · rename_i n hT
    obtain ⟨hi, hk, hK⟩ := h
    have hc' : ∀ j, j < n → ∃ u, u.oneCell' = true ∧ w.cell? ((a.add k).add j) = some u ∧ RD w F (cel xs i (k + j)) u := fun j hj => by
      obtain ⟨u, h1, hu, hd⟩ := hc (k + j) hi (by omega)
      exact ⟨u, h1, by rw [Addr.add_add]; exact hu, hd⟩
    let f : Nat → Value := fun j => (w.cell? ((a.add k).add j)).getD undef
    have hf : ∀ j, j < n → w.cell? ((a.add k).add j) = some (f j) := fun j hj => by
      obtain ⟨u, _, hu, _⟩ := hc' j hj
      simp [f, hu]
    obtain ⟨hlen, hget⟩ := seg_get hl hi hk
    refine ⟨_, _, run_loadVar_agg hE hT f hf, hK, .d (.agg _ _ (by simp [hlen]) ?_ ?_)⟩
    · intro j hj
      have hjn : j < n := by simpa using hj
      rw [ofFn_getD n f j hjn]
      obtain ⟨u, h1, hu, _⟩ := hc' j hjn
      have : f j = u := by simp [f, hu]
      rw [this]; exact h1
    · intro j d hj
      obtain ⟨hjn, rfl⟩ := hget j d hj
      rw [ofFn_getD n f j hjn]
      obtain ⟨u, _, hu, hd⟩ := hc' j hjn
      have : f j = u := by simp [f, hu]
      rw [this]; exact hd
  · exact h.elim

theorem obj_at (hS : SR E w F Γ H) {id : Nat} {s : Slot} (hs : Γ[id]? = some s) {o : AObj} (ho : H.getD id .none = o) (hl : o.live = true) : H[id]? = some o ∧ RO w F Γ s o := by
  rw [List.getD_eq_getElem?_getD] at ho
  cases h : H[id]? with
  | none => rw [h] at ho; simp at ho; subst ho; simp [AObj.live] at hl
  | some o' => rw [h] at ho; simp at ho; subst ho; exact ⟨rfl, hS.obj id s _ hs h⟩

theorem cell_of_heap {b k : Nat} {c : Array Value} {ty : TypeId} {fr : Nat × Nat} (h : w.heap[b]? = some (.cells c ty fr)) : w.cell? ⟨b, k, none⟩ = c[k]? := by
  simp [World.cell?, h]
theorem getD_of {c : Array Value} {k : Nat} (h : k < c.size) : c[k]? = some (c.getD k undef) := by
  simp [Array.getD_eq_getD_getElem?, h]

theorem aload_ok (hE : EnvOk E) (hS : SR E w F Γ H) {T : TypeId} {K : AV → Prop} {av : AV} (h : aload E T H K av) {v : Value} (hv : RV w F Γ av v) :
    ∃ u au, (Instr.loadAt T v).run E.P w = .ok u w ∧ K au ∧ RV w F Γ au u := by
  cases hv with
  | pvar hs hb =>
    rename_i id k s b
    simp only [aload] at h
    split at h <;> try exact h.elim
    rename_i cs ho
    obtain ⟨_, hro⟩ := obj_at hS hs ho rfl
    obtain ⟨b', c, ty, hb', hh, hsz, hcells⟩ := hro
    obtain rfl : b' = b := by rw [hb] at hb'; exact (Option.some.inj hb').symm
    simp only [Instr.loadAt, Instr.sureAddr, Sem.run_bind, Sem.run_pure, Result.andThen_ok]
    split at h
    · rename_i hT
      split at h
      · rename_i cv hk
        obtain ⟨hlt, _⟩ := List.getElem?_eq_some_iff.1 hk
        exact ⟨_, _, run_loadVar_one hE hT (by rw [cell_of_heap hh]; exact getD_of (by omega)), h, (hcells _ _ hk).2⟩
      · exact h.elim
    · rename_i n hT
      obtain ⟨hkn, hK⟩ := h
      refine ⟨_, _, run_loadVar_agg hE hT (fun j => c.getD (k + j) undef) (fun j hj => by
        rw [add_plain, cell_of_heap hh]; exact getD_of (by omega)), hK, ?_⟩
      refine mkAgg_ok _ _ (by simp; omega) ?_ ?_
      · intro j hj
        have hjn : j < n := by simpa using hj
        rw [ofFn_getD n (fun j => c.getD (k + j) undef) j hjn]
        exact (hcells (k + j) (cs[k + j]'(by omega)) (List.getElem?_eq_getElem (by omega))).1
      · intro j d hj
        rw [List.getElem?_take] at hj
        split at hj
        · rename_i hjn
          rw [List.getElem?_drop] at hj
          rw [ofFn_getD n (fun j => c.getD (k + j) undef) j hjn]
          exact (hcells _ _ hj).2
        · simp at hj
    · exact h.elim
  | parr hs hb =>
    rename_i id i k s b
    simp only [aload] at h
    split at h <;> try exact h.elim
    rename_i _ sz xs ho
    obtain ⟨_, hro⟩ := obj_at hS hs ho rfl
    obtain ⟨hsz, hlen, hcap, hl, hro⟩ := hro
    simp only [Instr.loadAt, Instr.sureAddr, Sem.run_bind, Sem.run_pure, Result.andThen_ok]
    have key := rdRow_ok (Γ := Γ) (w := w) (F := F) (a := ⟨b, i * s.sz, none⟩) hE h hl (fun k hi hk => by
      rcases hro with ⟨hn, _⟩ | ⟨b', c, hb', hh, hcs, hcells⟩
      · rw [hn] at hb; simp at hb
      · obtain rfl : b' = b := by rw [hb] at hb'; exact (Option.some.inj hb').symm
        have hx : xs[i]? = some xs[i] := List.getElem?_eq_getElem hi
        have hxl : xs[i].length = sz := hl _ (List.getElem_mem hi)
        have hd : xs[i][k]? = some (xs[i][k]'(by omega)) := List.getElem?_eq_getElem (by omega)
        have e : cel xs i k = xs[i][k]'(by omega) := by simp [cel, List.getD_eq_getElem?_getD, hx, hd]
        obtain ⟨h1, h2⟩ := hcells i _ k _ hx hd
        have hin : i * sz + k < c.size := by
          have h3 : (i + 1) * sz ≤ s.cap * sz := Nat.mul_le_mul_right _ (by omega)
          rw [Nat.succ_mul] at h3
          omega
        refine ⟨c.getD (i * sz + k) undef, h1, ?_, by rw [e]; exact h2⟩
        rw [add_plain, cell_of_heap hh, hsz]
        exact getD_of hin)
    rw [add_plain] at key
    exact key
  | pval hr hi =>
    rename_i sz xs i k c a
    simp only [aload] at h
    simp only [Instr.loadAt, Instr.sureAddr, Sem.run_bind, Sem.run_pure, Result.andThen_ok]
    obtain ⟨A, c', e, hc, _, hl, hcells⟩ := hr.slice_inv
    have key := rdRow_ok (Γ := Γ) (w := w) (F := F) (a := a.add (i * sz)) hE h hl (fun k hi hk => by
      obtain ⟨a', u, ha', _, h1, h2, h3⟩ := hcells i k hi hk
      injection e with e1 _ e2
      rw [ha'] at e1
      obtain rfl := Option.some.inj e1
      exact ⟨u, h1, by rw [Addr.add_add]; exact h2, h3⟩)
    rw [Addr.add_add] at key
    exact key
  | _ => simp only [aload] at h
end
end Go.Abs
