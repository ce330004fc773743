/-
  More operations that change nothing: arithmetic, comparisons, lengths, addresses of elements and fields, slicing.
-/
import Derived.Test.YtjljjakfebfpfaaDoorAbs2
set_option autoImplicit false
set_option linter.unusedVariables false
set_option linter.unusedSimpArgs false
namespace Go.Abs

/-! ### Numbers -/
def ibits (op : BinOp) (k : IntKind) (x y : Int) : Int :=
  match op with
  | .and => k.wrap (BitVec.ofInt k.bits x &&& BitVec.ofInt k.bits y).toNat
  | .or => k.wrap (BitVec.ofInt k.bits x ||| BitVec.ofInt k.bits y).toNat
  | .xor => k.wrap (BitVec.ofInt k.bits x ^^^ BitVec.ofInt k.bits y).toNat
  | _ => k.wrap (BitVec.ofInt k.bits x &&& ~~~ BitVec.ofInt k.bits y).toNat
def aint (op : BinOp) (k : IntKind) (a : Int) (k' : IntKind) (b : Int) (K : AV → Prop) : Prop :=
  match op with
  | .add => k = k' ∧ K (.d (.int k (k.wrap (a + b))))
  | .sub => k = k' ∧ K (.d (.int k (k.wrap (a - b))))
  | .mul => k = k' ∧ K (.d (.int k (k.wrap (a * b))))
  | .quo => k = k' ∧ b ≠ 0 ∧ K (.d (.int k (k.wrap (a.tdiv b))))
  | .rem => k = k' ∧ b ≠ 0 ∧ K (.d (.int k (a.tmod b)))
  | .and => k = k' ∧ K (.d (.int k (ibits .and k a b)))
  | .or => k = k' ∧ K (.d (.int k (ibits .or k a b)))
  | .xor => k = k' ∧ K (.d (.int k (ibits .xor k a b)))
  | .andNot => k = k' ∧ K (.d (.int k (ibits .andNot k a b)))
  | .shl => 0 ≤ b ∧ K (.d (.int k (k.wrap (a * 2 ^ (min b.toNat k.bits)))))
  | .shr => 0 ≤ b ∧ K (.d (.int k (a.fdiv (2 ^ (min b.toNat k.bits)))))
  | .eql => k = k' ∧ K (.d (.bool (a == b)))
  | .neq => k = k' ∧ K (.d (.bool (a != b)))
  | .lss => k = k' ∧ K (.d (.bool (decide (a < b))))
  | .leq => k = k' ∧ K (.d (.bool (decide (a ≤ b))))
  | .gtr => k = k' ∧ K (.d (.bool (decide (a > b))))
  | .geq => k = k' ∧ K (.d (.bool (decide (a ≥ b))))

def bEq (op : BinOp) (r : Bool) (K : AV → Prop) : Prop :=
  match op with
  | .eql => K (.d (.bool r))
  | .neq => K (.d (.bool (!r)))
  | _ => False
def astr (op : BinOp) (a b : ByteArray) (K : AV → Prop) : Prop :=
  match op with
  | .eql => K (.d (.bool (a.toList == b.toList)))
  | .neq => K (.d (.bool (!(a.toList == b.toList))))
  | .add => ((a.size + b.size : Nat) : Int) ≤ IntKind.i64.max ∧ K (.d (.str (a ++ b)))
  | _ => False
/-- A pointer: is it one? -/
def ptrish : AV → Option Bool
  | .d .nilp => some false
  | .pvar _ _ => some true
  | .parr _ _ _ => some true
  | .pval _ _ _ _ => some true
  | _ => none
def ifaceish : AV → Option Bool
  | .d .nili => some false
  | .d (.iface _ _) => some true
  | .iface _ _ => some true
  | _ => none
def isC : Operand → Bool
  | .const _ => true
  | _ => false
def kd (E : Env) (T : TypeId) : Option Kd := match E.ty T with
  | some i => some i.k
  | none => none
def acmp (E : Env) (op : BinOp) (T : TypeId) (c : Bool) (x y : AV) (K : AV → Prop) : Prop :=
  match kd E T with
  | some (.ptr _) => match ptrish x, ptrish y with
    | some false, some false => bEq op true K
    | some false, some true => bEq op false K
    | some true, some false => bEq op false K
    | _, _ => False
  | some .iface => match ifaceish x, ifaceish y with
    | some false, some false => c = true ∧ bEq op true K
    | some false, some true => bEq op false K
    | some true, some false => bEq op false K
    | _, _ => False
  | some (.struct _) => (match E.cmp T, x, y with
    | some g, .d a, .d b => g a = true ∧ g b = true ∧ bEq op (dkeq a b) K
    | _, _, _ => False)
  | some (.slice _) => (match x, y with
    | .d .nils, .d .nils => bEq op true K
    | _, _ => False)
  | _ => False
def abin (E : Env) (op : BinOp) (T : TypeId) (c : Bool) (x y : AV) (K : AV → Prop) : Prop :=
  match x, y with
  | .d (.int k a), .d (.int k' b) => aint op k a k' b K
  | .d (.bool a), .d (.bool b) => (match kd E T with
    | some .bool => bEq op (a == b) K
    | _ => False)
  | .d (.str a), .d (.str b) => astr op a b K
  | x, y => acmp E op T c x y K

section
variable {E : Env} {w : World} {F : Nat → Prop} {Γ : List Slot} {H : List AObj}

theorem guard_int (op : BinOp) (T : TypeId) (x y : Operand) (k k' : IntKind) (a b : Int) (P : Program) (w : World) :
    (eqGuard op T x y (.int k a) (.int k' b)).run P w = .ok () w := by
  unfold eqGuard
  split <;> simp

theorem aint_ok {op : BinOp} {k k' : IntKind} {a b : Int} {K : AV → Prop} (h : aint op k a k' b K) (T : TypeId) (x y : Operand) (P : Program) :
    ∃ v av, ((do eqGuard op T x y (.int k a) (.int k' b); binOp op T (.int k a) (.int k' b)) : Sem Value).run P w = .ok v w ∧ K av ∧ RV w F Γ av v := by
  simp only [Sem.run_bind, guard_int, Result.andThen_ok]
  cases op <;> simp only [aint] at h
  case add => obtain ⟨rfl, h⟩ := h; exact ⟨_, _, by simp [binOp, Op.intArith], h, .d (.int _ _)⟩
  case sub => obtain ⟨rfl, h⟩ := h; exact ⟨_, _, by simp [binOp, Op.intArith], h, .d (.int _ _)⟩
  case mul => obtain ⟨rfl, h⟩ := h; exact ⟨_, _, by simp [binOp, Op.intArith], h, .d (.int _ _)⟩
  case quo => obtain ⟨rfl, h0, h⟩ := h; exact ⟨_, _, by simp [binOp, Op.intDiv, h0], h, .d (.int _ _)⟩
  case rem => obtain ⟨rfl, h0, h⟩ := h; exact ⟨_, _, by simp [binOp, Op.intDiv, h0], h, .d (.int _ _)⟩
  case and => obtain ⟨rfl, h⟩ := h; exact ⟨_, _, by simp only [binOp, Op.intBits, ne_eq, not_true_eq_false, if_false]; rfl, h, .d (.int _ _)⟩
  case or => obtain ⟨rfl, h⟩ := h; exact ⟨_, _, by simp only [binOp, Op.intBits, ne_eq, not_true_eq_false, if_false]; rfl, h, .d (.int _ _)⟩
  case xor => obtain ⟨rfl, h⟩ := h; exact ⟨_, _, by simp only [binOp, Op.intBits, ne_eq, not_true_eq_false, if_false]; rfl, h, .d (.int _ _)⟩
  case andNot => obtain ⟨rfl, h⟩ := h; exact ⟨_, _, by simp only [binOp, Op.intBits, ne_eq, not_true_eq_false, if_false]; rfl, h, .d (.int _ _)⟩
  case shl => obtain ⟨h0, h⟩ := h; exact ⟨_, _, by simp [binOp, Op.shift, Int.not_lt.2 h0], h, .d (.int _ _)⟩
  case shr => obtain ⟨h0, h⟩ := h; exact ⟨_, _, by simp [binOp, Op.shift, Int.not_lt.2 h0], h, .d (.int _ _)⟩
  case eql => obtain ⟨rfl, h⟩ := h; exact ⟨_, _, by simp [binOp, Op.intCmp], h, .d (.bool _)⟩
  case neq => obtain ⟨rfl, h⟩ := h; exact ⟨_, _, by simp [binOp, Op.intCmp], h, .d (.bool _)⟩
  case lss => obtain ⟨rfl, h⟩ := h; exact ⟨_, _, by simp [binOp, Op.intCmp], h, .d (.bool _)⟩
  case leq => obtain ⟨rfl, h⟩ := h; exact ⟨_, _, by simp [binOp, Op.intCmp], h, .d (.bool _)⟩
  case gtr => obtain ⟨rfl, h⟩ := h; exact ⟨_, _, by simp [binOp, Op.intCmp], h, .d (.bool _)⟩
  case geq => obtain ⟨rfl, h⟩ := h; exact ⟨_, _, by simp [binOp, Op.intCmp], h, .d (.bool _)⟩

theorem equal_run {P : Program} {T : TypeId} {x y : Value} {r : Bool} (h : ∀ d, (Op.equalIn (d + 1) T x y).run P w = .ok r w) : (Op.equal T x y).run P w = .ok r w := h 9999
theorem bEq_ok {op : BinOp} {r : Bool} {K : AV → Prop} (h : bEq op r K) {T : TypeId} {x y : Operand} {a b : Value} {P : Program}
    (hb : op = .eql ∨ op = .neq → (binOp op T a b) = (if op = .eql then do pure (.bool (← Op.equal T a b)) else do pure (.bool (!(← Op.equal T a b)))))
    (hg : (eqGuard op T x y a b).run P w = .ok () w) (he : (Op.equal T a b).run P w = .ok r w) :
    ∃ v av, ((do eqGuard op T x y a b; binOp op T a b) : Sem Value).run P w = .ok v w ∧ K av ∧ RV w F Γ av v := by
  simp only [Sem.run_bind, hg, Result.andThen_ok]
  cases op <;> simp only [bEq] at h
  case eql => exact ⟨_, _, by rw [hb (.inl rfl)]; simp [he], h, .d (.bool _)⟩
  case neq => exact ⟨_, _, by rw [hb (.inr rfl)]; simp [he], h, .d (.bool _)⟩

theorem astr_ok {op : BinOp} {a b : ByteArray} {K : AV → Prop} (h : astr op a b K) (T : TypeId) (x y : Operand) (P : Program) :
    ∃ v av, ((do eqGuard op T x y (.string a) (.string b); binOp op T (.string a) (.string b)) : Sem Value).run P w = .ok v w ∧ K av ∧ RV w F Γ av v := by
  have hg : (eqGuard op T x y (.string a) (.string b)).run P w = .ok () w := by unfold eqGuard; split <;> simp
  simp only [Sem.run_bind, hg, Result.andThen_ok]
  cases op <;> simp only [astr] at h
  case eql => exact ⟨_, _, by simp [binOp, Op.stringOp], h, .d (.bool _)⟩
  case neq => exact ⟨_, _, by simp [binOp, Op.stringOp], h, .d (.bool _)⟩
  case add => exact ⟨_, _, by simp only [binOp, Op.stringOp]; rw [if_neg (by omega)]; rfl, h.2, .d (.str _)⟩

theorem kd_some {T : TypeId} {k : Kd} (hE : EnvOk E) (h : kd E T = some k) : ∃ d, k.fits d ∧ ∀ w, (underlying T).run E.P w = .ok d w := by
  unfold kd at h
  cases hi : E.ty T with
  | none => simp [hi] at h
  | some i => simp [hi] at h; subst h; exact run_ty hE hi

theorem ptrish_false {x : AV} {v : Value} (h : ptrish x = some false) (hv : RV w F Γ x v) : v = .pointer none := by
  cases hv with
  | d hd => cases hd <;> simp [ptrish] at h <;> rfl
  | _ => simp [ptrish] at h
theorem ptrish_true {x : AV} {v : Value} (h : ptrish x = some true) (hv : RV w F Γ x v) : ∃ a, v = .pointer (some a) := by
  cases hv with
  | d hd => cases hd <;> simp [ptrish] at h
  | pvar _ _ => exact ⟨_, rfl⟩
  | parr _ _ => exact ⟨_, rfl⟩
  | pval _ _ => exact ⟨_, rfl⟩
  | _ => simp [ptrish] at h
theorem ifaceish_false {x : AV} {v : Value} (h : ifaceish x = some false) (hv : RV w F Γ x v) : v = .nilIface := by
  cases hv with
  | d hd => cases hd <;> simp [ifaceish] at h <;> rfl
  | _ => simp [ifaceish] at h
theorem ifaceish_true {x : AV} {v : Value} (h : ifaceish x = some true) (hv : RV w F Γ x v) : ∃ t u, v = .iface t u := by
  cases hv with
  | d hd => cases hd <;> simp [ifaceish] at h; exact ⟨_, _, rfl⟩
  | iface t d v hr => exact ⟨_, _, rfl⟩
  | _ => simp [ifaceish] at h

theorem isC_const {x : Operand} (h : isC x = true) : (match x with | .const _ => true | _ => false) = true := by cases x <;> simp [isC] at h ⊢

theorem guard_nil {op : BinOp} {T : TypeId} {x y : Operand} {P : Program} (hc : (isC x || isC y) = true) : (eqGuard op T x y .nilIface .nilIface).run P w = .ok () w := by
  unfold eqGuard
  cases x <;> cases y <;> simp [isC] at hc <;> (split <;> simp)
theorem acmp_ok (hE : EnvOk E) {op : BinOp} {T : TypeId} {x y : Operand} {ax ay : AV} {K : AV → Prop} (h : acmp E op T (isC x || isC y) ax ay K) {a b : Value}
    (hx : RV w F Γ ax a) (hy : RV w F Γ ay b) :
    ∃ v av, ((do eqGuard op T x y a b; binOp op T a b) : Sem Value).run E.P w = .ok v w ∧ K av ∧ RV w F Γ av v := by
  unfold acmp at h
  split at h
  · rename_i e hk
    obtain ⟨d, hf, hr⟩ := kd_some hE hk
    simp only [Kd.fits] at hf
    subst hf
    have ptr : ∀ (p q : Option Addr) (r : Bool), bEq op r K → (Op.equal T (.pointer p) (.pointer q)).run E.P w = .ok r w → a = .pointer p → b = .pointer q →
        ∃ v av, ((do eqGuard op T x y a b; binOp op T a b) : Sem Value).run E.P w = .ok v w ∧ K av ∧ RV w F Γ av v := by
      rintro p q r hb he rfl rfl
      refine bEq_ok hb (fun ho => ?_) (by unfold eqGuard; split <;> simp) he
      rcases ho with rfl | rfl <;> simp [binOp]
    split at h
    · rename_i h1 h2
      exact ptr none none true h (equal_run fun d => by simp [Op.equalIn, hr]) (ptrish_false h1 hx) (ptrish_false h2 hy)
    · rename_i h1 h2
      obtain ⟨q, hq⟩ := ptrish_true h2 hy
      exact ptr none (some q) false h (equal_run fun d => by simp [Op.equalIn, hr]) (ptrish_false h1 hx) hq
    · rename_i h1 h2
      obtain ⟨q, hq⟩ := ptrish_true h1 hx
      exact ptr (some q) none false h (equal_run fun d => by simp [Op.equalIn, hr]) hq (ptrish_false h2 hy)
    · exact h.elim
  · rename_i hk
    obtain ⟨d, hf, hr⟩ := kd_some hE hk
    obtain ⟨ms, rfl⟩ := hf
    split at h
    · rename_i h1 h2
      obtain ⟨hc, h⟩ := h
      obtain rfl := ifaceish_false h1 hx
      obtain rfl := ifaceish_false h2 hy
      refine bEq_ok h (fun ho => ?_) (guard_nil hc) (equal_run fun d => by simp [Op.equalIn, hr])
      rcases ho with rfl | rfl <;> simp [binOp]
    · rename_i h1 h2
      obtain rfl := ifaceish_false h1 hx
      obtain ⟨t, u, rfl⟩ := ifaceish_true h2 hy
      refine bEq_ok h (fun ho => ?_) (by unfold eqGuard; split <;> simp) (equal_run fun d => by simp [Op.equalIn, hr])
      rcases ho with rfl | rfl <;> simp [binOp]
    · rename_i h1 h2
      obtain ⟨t, u, rfl⟩ := ifaceish_true h1 hx
      obtain rfl := ifaceish_false h2 hy
      refine bEq_ok h (fun ho => ?_) (by unfold eqGuard; split <;> simp) (equal_run fun d => by simp [Op.equalIn, hr])
      rcases ho with rfl | rfl <;> simp [binOp]
    · exact h.elim
  · rename_i fs hk
    split at h <;> try exact h.elim
    rename_i g a' b' hg
    obtain ⟨h1, h2, h⟩ := h
    exact bEq_ok h (fun ho => (hE.cmp T g hg).bin op w F _ _ _ _ h1 h2 hx.of_d hy.of_d ho) ((hE.cmp T g hg).grd op x y w F _ _ _ _ h1 h2 hx.of_d hy.of_d) ((hE.cmp T g hg).eq w F _ _ _ _ h1 h2 hx.of_d hy.of_d)
  · rename_i e hk
    obtain ⟨d, hf, hr⟩ := kd_some hE hk
    simp only [Kd.fits] at hf
    subst hf
    split at h
    · have h1 := hx.of_d
      have h2 := hy.of_d
      cases h1
      cases h2
      refine bEq_ok h (fun ho => ?_) (by unfold eqGuard; split <;> simp) (equal_run fun d => by simp [Op.equalIn, hr])
      rcases ho with rfl | rfl <;> simp [binOp]
    · exact h.elim
  · exact h.elim

theorem RD_int {k : IntKind} {n : Int} {v : Value} (h : RD w F (.int k n) v) : v = .int k n := by cases h; rfl
theorem RD_bool {b : Bool} {v : Value} (h : RD w F (.bool b) v) : v = .bool b := by cases h; rfl
theorem RD_str {s : ByteArray} {v : Value} (h : RD w F (.str s) v) : v = .string s := by cases h; rfl

theorem abin_ok (hE : EnvOk E) {op : BinOp} {T : TypeId} {x y : Operand} {ax ay : AV} {K : AV → Prop} (h : abin E op T (isC x || isC y) ax ay K) {a b : Value}
    (hx : RV w F Γ ax a) (hy : RV w F Γ ay b) :
    ∃ v av, ((do eqGuard op T x y a b; binOp op T a b) : Sem Value).run E.P w = .ok v w ∧ K av ∧ RV w F Γ av v := by
  unfold abin at h
  split at h
  · obtain rfl := RD_int hx.of_d
    obtain rfl := RD_int hy.of_d
    exact aint_ok h T x y E.P
  · obtain rfl := RD_bool hx.of_d
    obtain rfl := RD_bool hy.of_d
    split at h
    · rename_i p q _ hk
      obtain ⟨d, hf, hr⟩ := kd_some hE hk
      simp only [Kd.fits] at hf
      subst hf
      refine bEq_ok h (fun ho => ?_) (by unfold eqGuard; split <;> simp) (equal_run fun d => by simp [Op.equalIn, hr])
      rcases ho with rfl | rfl <;> simp [binOp]
    · exact h.elim
  · obtain rfl := RD_str hx.of_d
    obtain rfl := RD_str hy.of_d
    exact astr_ok h T x y E.P
  · exact acmp_ok hE h hx hy

/-- Whether a row is nil is left open where it holds nothing. -/
def isSl (E : Env) (T : TypeId) : Bool := match kd E T with
  | some (.slice _) => true
  | _ => false
def aopBin (E : Env) (op : BinOp) (T : TypeId) (c : Bool) (x y : AV) (K : AV → Prop) : Prop := match isSl E T, x, y with
  | true, .d (.slice _ xs), .d .nils => bEq op false K ∧ (xs = [] → bEq op true K)
  | _, x, y => abin E op T c x y K
theorem abin_aopBin {op : BinOp} {T : TypeId} {c : Bool} {x y : AV} {K : AV → Prop} (h : abin E op T c x y K) : aopBin E op T c x y K := by
  unfold aopBin
  split
  · rename_i hs
    unfold isSl at hs
    split at hs
    · rename_i hk
      unfold abin acmp at h
      simp only [hk] at h
    · cases hs
  · exact h
theorem aopBin_ok (hE : EnvOk E) {op : BinOp} {T : TypeId} {x y : Operand} {ax ay : AV} {K : AV → Prop} (h : aopBin E op T (isC x || isC y) ax ay K) {a b : Value}
    (hx : RV w F Γ ax a) (hy : RV w F Γ ay b) :
    ∃ v av, ((do eqGuard op T x y a b; binOp op T a b) : Sem Value).run E.P w = .ok v w ∧ K av ∧ RV w F Γ av v := by
  unfold aopBin at h
  split at h
  · rename_i sz xs hs
    unfold isSl at hs
    split at hs
    · rename_i e hk
      obtain ⟨d, hf, hr⟩ := kd_some hE hk
      simp only [Kd.fits] at hf
      subst hf
      have h1 := hx.of_d
      have h2 := hy.of_d
      cases h2
      have fin : ∀ (A : Option Addr) (n c : Nat) (r : Bool), bEq op r K → A.isNone = r → a = .slice A n c → ∃ v av, ((do eqGuard op T x y a (.slice none 0 0); binOp op T a (.slice none 0 0)) : Sem Value).run E.P w = .ok v w ∧ K av ∧ RV w F Γ av v := by
        rintro A n c r hb hA rfl
        refine bEq_ok hb (fun ho => ?_) (by unfold eqGuard; split <;> simp) (equal_run fun d => by
          cases A with
          | none => simp at hA; subst hA; simp [Op.equalIn, hr]
          | some q => simp at hA; subst hA; simp [Op.equalIn, hr])
        rcases ho with rfl | rfl <;> simp [binOp]
      cases h1 with
      | slice _ _ A c f g1 g2 g3 g4 g5 =>
        cases A with
        | some q => exact fin (some q) _ _ false h.1 rfl rfl
        | none =>
          by_cases hxs : xs = []
          · exact fin none _ _ true (h.2 hxs) rfl rfl
          · exfalso
            cases xs with
            | nil => exact hxs rfl
            | cons z zs => exact absurd (g2 (by simp)) (by simp)
    · cases hs
  · exact abin_ok hE h hx hy

/-! ### One operand -/
def aun (op : UnOp) (x : AV) (K : AV → Prop) : Prop := match op, x with
  | .not, .d (.bool b) => K (.d (.bool (!b)))
  | .neg, .d (.int k n) => K (.d (.int k (k.wrap (0 - n))))
  | _, _ => False
theorem aun_ok {op : UnOp} {x : AV} {K : AV → Prop} (h : aun op x K) {a : Value} (hx : RV w F Γ x a) (P : Program) :
    ∃ v av, (Op.unary op a).run P w = .ok v w ∧ K av ∧ RV w F Γ av v := by
  unfold aun at h
  split at h
  · obtain rfl := RD_bool hx.of_d; exact ⟨_, _, rfl, h, .d (.bool _)⟩
  · obtain rfl := RD_int hx.of_d; exact ⟨_, _, rfl, h, .d (.int _ _)⟩
  · exact h.elim

def aconv (E : Env) (src dst : TypeId) (x : AV) (K : AV → Prop) : Prop := match kd E src, kd E dst, x with
  | some _, some (.int k), .d (.int _ n) => K (.d (.int k (k.wrap n)))
  | _, _, _ => False
theorem aconv_ok (hE : EnvOk E) {src dst : TypeId} {x : AV} {K : AV → Prop} (h : aconv E src dst x K) {a : Value} (hx : RV w F Γ x a) :
    ∃ v av, (convert src dst a).run E.P w = .ok v w ∧ K av ∧ RV w F Γ av v := by
  unfold aconv at h
  split at h
  · rename_i h1 h2
    obtain ⟨d1, hf1, hr1⟩ := kd_some hE h1
    obtain ⟨d2, hf2, hr2⟩ := kd_some hE h2
    simp only [Kd.fits] at hf2
    subst hf2
    obtain rfl := RD_int hx.of_d
    exact ⟨_, _, by simp [convert, hr1, hr2, Conv.intToInt], h, .d (.int _ _)⟩
  · exact h.elim

def anil (x : AV) (K : AV → Prop) : Prop := match x with
  | .pvar id k => K (.pvar id k)
  | .parr id i k => K (.parr id i k)
  | .pval sz xs i k => K (.pval sz xs i k)
  | .func f cs => K (.func f cs)
  | .iface t v => K (.iface t v)
  | .d (.iface t v) => K (.d (.iface t v))
  | .d (.func f cs) => K (.d (.func f cs))
  | _ => False

/-! ### Rows -/
def rowLen (H : List AObj) : AV → Option Nat
  | .d (.slice _ xs) => some xs.length
  | .d .nils => some 0
  | .svalf _ xs => some xs.length
  | .sfull id => match H.getD id .none with
    | .arr _ _ xs => some xs.length
    | _ => none
  | .spart _ _ n => some n
  | _ => none
theorem rowLen_ok (hS : SR E w F Γ H) {x : AV} {n : Nat} (h : rowLen H x = some n) {v : Value} (hv : RV w F Γ x v) : ∃ A c, v = .slice A n c ∧ n ≤ c := by
  cases hv with
  | d hd => cases hd <;> simp [rowLen] at h <;> subst h <;> first | exact ⟨_, _, rfl, by assumption⟩ | exact ⟨_, _, rfl, Nat.le_refl _⟩
  | svalf hd => simp [rowLen] at h; subst h; exact ⟨_, _, rfl, Nat.le_refl _⟩
  | spart hs hn ha => simp [rowLen] at h; subst h; exact ⟨_, _, rfl, hn⟩
  | sfull hs hA =>
    simp only [rowLen] at h
    split at h
    · rename_i _ sz xs ho
      obtain ⟨_, h1, h2, h3, _⟩ := obj_at hS hs ho rfl
      simp at h
      subst h
      rw [← h2]; exact ⟨_, _, rfl, by omega⟩
    · simp at h
  | _ => simp [rowLen] at h

def alen (E : Env) (T : TypeId) (H : List AObj) (x : AV) (K : AV → Prop) : Prop := match kd E T with
  | some (.slice _) => match rowLen H x with
    | some n => K (.d (.int .i64 n))
    | none => False
  | some .string => match x with
    | .d (.str s) => K (.d (.int .i64 s.size))
    | _ => False
  | some (.map _ _) => match x with
    | .d .nilm => K (.d (.int .i64 0))
    | .mapo id => match H.getD id .none with
      | .map es => K (.d (.int .i64 es.length))
      | _ => False
    | _ => False
  | _ => False
theorem alen_ok (hE : EnvOk E) (hS : SR E w F Γ H) {T T' : TypeId} {ts : Array TypeId} (hts : ts[0]? = some T) {x : AV} {K : AV → Prop} (h : alen E T H x K) {a : Value} {as : Array Value} (has : as[0]? = some a)
    (hx : RV w F Γ x a) : ∃ v av, (Builtin.len_ ts T' as).run E.P w = .ok v w ∧ K av ∧ RV w F Γ av v := by
  unfold alen at h
  split at h
  · rename_i e hk
    obtain ⟨d, hf, hr⟩ := kd_some hE hk
    simp only [Kd.fits] at hf
    subst hf
    split at h
    · rename_i n hn
      obtain ⟨A, c, rfl, _⟩ := rowLen_ok hS hn hx
      exact ⟨_, _, by simp [Builtin.len_, hts, has, hr, goInt], h, .d (.int _ _)⟩
    · exact h.elim
  · rename_i hk
    obtain ⟨d, hf, hr⟩ := kd_some hE hk
    simp only [Kd.fits] at hf
    subst hf
    split at h
    · obtain rfl := RD_str hx.of_d
      exact ⟨_, _, by simp [Builtin.len_, hts, has, hr, goInt], h, .d (.int _ _)⟩
    · exact h.elim
  · rename_i kt e hk
    obtain ⟨d, hf, hr⟩ := kd_some hE hk
    simp only [Kd.fits] at hf
    subst hf
    split at h
    · have hd := hx.of_d
      cases hd with
      | nilm => exact ⟨_, _, by simp [Builtin.len_, hts, has, hr, goInt], h, .d (.int _ _)⟩
    · split at h <;> try exact h.elim
      rename_i es ho
      cases hx with
      | mapo hs hb =>
        rename_i s b
        obtain ⟨_, b', arr, clock, hb', hh, hR, _⟩ := obj_at hS hs ho rfl
        obtain rfl : b' = b := by rw [hb] at hb'; exact (Option.some.inj hb').symm
        rw [← hR] at h
        exact ⟨_, _, by simp [Builtin.len_, hts, has, hr, MapKept.run_getObj_map hh, goInt], h, .d (.int _ _)⟩
    · exact h.elim
  · exact h.elim

/-- The address of a row's element. -/
def rowPtr (H : List AObj) (sz : Nat) (x : AV) (n : Int) (K : AV → Prop) : Prop := match x with
  | .d (.slice sz' xs) => sz' = sz ∧ 0 ≤ n ∧ n < xs.length ∧ K (.pval sz' xs n.toNat 0)
  | .svalf sz' xs => sz' = sz ∧ 0 ≤ n ∧ n < xs.length ∧ K (.pval sz' xs n.toNat 0)
  | .sfull id => match H.getD id .none with
    | .arr _ sz' xs => sz' = sz ∧ 0 ≤ n ∧ n < xs.length ∧ K (.parr id n.toNat 0)
    | _ => False
  | .spart id lo m => match H.getD id .none with
    | .arr _ sz' xs => sz' = sz ∧ 0 ≤ n ∧ n < m ∧ lo + n.toNat < xs.length ∧ K (.parr id (lo + n.toNat) 0)
    | _ => False
  | _ => False
def esz (E : Env) (e : TypeId) : Option Nat := match E.ty e with
  | some i => some i.size
  | none => none
theorem esz_ok (hE : EnvOk E) {e : TypeId} {n : Nat} (h : esz E e = some n) (w : World) : (sizeOf e).run E.P w = .ok n w := by
  unfold esz at h
  cases hi : E.ty e with
  | none => simp [hi] at h
  | some i => simp [hi] at h; subst h; exact run_sz hE hi w

theorem rowPtr_ok (hS : SR E w F Γ H) {sz : Nat} {x : AV} {n : Int} {K : AV → Prop} (h : rowPtr H sz x n K) {v : Value} (hv : RV w F Γ x v) :
    ∃ a m c, v = .slice (some a) m c ∧ 0 ≤ n ∧ n < m ∧ ∃ av, K av ∧ RV w F Γ av (.pointer (some (a.add (n.toNat * sz)))) := by
  have val : ∀ (xs : List (List D)) (A : Option Addr) (c : Nat), RD w F (.slice sz xs) (.slice A xs.length c) → 0 ≤ n → n < xs.length → K (.pval sz xs n.toNat 0) →
      ∃ a m c', Value.slice A xs.length c = .slice (some a) m c' ∧ 0 ≤ n ∧ n < m ∧ ∃ av, K av ∧ RV w F Γ av (.pointer (some (a.add (n.toNat * sz)))) := by
    intro xs A c hd h0 h1 hK
    cases A with
    | some a =>
      exact ⟨a, _, _, rfl, h0, h1, _, hK, by
        have := RV.pval (Γ := Γ) (k := 0) hd (show n.toNat < xs.length by omega)
        simpa using this⟩
    | none =>
      exfalso
      obtain ⟨A', c', e, hc, ha, hl, hcells⟩ := hd.slice_inv
      injection e with e1 _ _
      subst e1
      have := ha (by omega)
      simp at this
  unfold rowPtr at h
  split at h
  · rename_i sz' xs
    obtain ⟨rfl, h0, h1, hK⟩ := h
    obtain ⟨A, c, rfl, _⟩ := (hv.of_d).slice_inv
    exact val xs A c hv.of_d h0 h1 hK
  · obtain ⟨rfl, h0, h1, hK⟩ := h
    cases hv with
    | svalf hd => exact val _ _ _ hd h0 h1 hK
  · split at h
    · rename_i id _ _ sz' xs ho
      obtain ⟨rfl, h0, h1, hK⟩ := h
      cases hv with
      | sfull hs hA =>
        rename_i s A
        obtain ⟨_, hz, hlen, hcap, hl, hro⟩ := obj_at hS hs ho rfl
        rcases hro with ⟨hn, hc0⟩ | ⟨b, c, hb, _⟩
        · omega
        · refine ⟨⟨b, 0, none⟩, s.len, s.cap, by rw [hA b hb], h0, by omega, _, hK, ?_⟩
          have := RV.parr (w := w) (F := F) (i := n.toNat) (k := 0) hs hb
          rw [add_plain, Nat.zero_add, ← hz]
          simpa using this
    · exact h.elim
  · split at h
    · rename_i id lo m _ _ sz' xs ho
      obtain ⟨rfl, h0, h1, h2, hK⟩ := h
      cases hv with
      | spart hs hn ha =>
        rename_i c s A
        obtain ⟨_, hz, hlen, hcap, hl, hro⟩ := obj_at hS hs ho rfl
        obtain ⟨b, hb, rfl⟩ := ha (by omega)
        refine ⟨_, _, _, rfl, h0, h1, _, hK, ?_⟩
        have := RV.parr (w := w) (F := F) (i := lo + n.toNat) (k := 0) hs hb
        rw [add_plain, ← hz]
        simpa [Nat.add_mul] using this
    · exact h.elim
  · exact h.elim
/-- The element's address, by the type: of a row, or of an array behind an address. -/
def aidx (E : Env) (T : TypeId) (H : List AObj) (x i : AV) (K : AV → Prop) : Prop := match kd E T, i with
  | some (.slice e), .d (.int _ n) => (match esz E e with
    | some sz => rowPtr H sz x n K
    | none => False)
  | some (.array m e), .d (.int _ n) => (match esz E e with
    | some sz => 0 ≤ n ∧ n < m ∧ (match x with
      | .pvar id k => K (.pvar id (k + n.toNat * sz))
      | .parr id i k => K (.parr id i (k + n.toNat * sz))
      | .pval sz' xs i k => K (.pval sz' xs i (k + n.toNat * sz))
      | _ => False)
    | none => False)
  | _, _ => False

theorem aidx_ok (hE : EnvOk E) (hS : SR E w F Γ H) {T : TypeId} {x i : AV} {K : AV → Prop} (h : aidx E T H x i K) {a b : Value} (hx : RV w F Γ x a) (hi : RV w F Γ i b) :
    ∃ v av, (Instr.indexAt T a b).run E.P w = .ok v w ∧ K av ∧ RV w F Γ av v := by
  unfold aidx at h
  split at h
  · rename_i e k n hk
    obtain ⟨d, hf, hr⟩ := kd_some hE hk
    simp only [Kd.fits] at hf
    subst hf
    obtain rfl := RD_int hi.of_d
    split at h
    · rename_i sz hsz
      obtain ⟨a', m, c, rfl, h0, h1, av, hK, hav⟩ := rowPtr_ok hS h hx
      exact ⟨_, av, by simp [Instr.indexAt, asIntOf, hr, h0, h1, esz_ok hE hsz], hK, hav⟩
    · exact h.elim
  · rename_i m e k n hk
    obtain ⟨d, hf, hr⟩ := kd_some hE hk
    simp only [Kd.fits] at hf
    subst hf
    obtain rfl := RD_int hi.of_d
    split at h
    · rename_i sz hsz
      obtain ⟨h0, h1, h⟩ := h
      split at h
      · cases hx with
        | pvar hs hb =>
          refine ⟨_, _, by simp [Instr.indexAt, asIntOf, hr, h0, h1, esz_ok hE hsz, Instr.sureAddr]; rfl, h, ?_⟩
          rw [add_plain]
          exact .pvar hs hb
      · cases hx with
        | parr hs hb =>
          refine ⟨_, _, by simp [Instr.indexAt, asIntOf, hr, h0, h1, esz_ok hE hsz, Instr.sureAddr]; rfl, h, ?_⟩
          rw [add_plain, Nat.add_assoc]
          exact .parr hs hb
      · cases hx with
        | pval hd hi' =>
          refine ⟨_, _, by simp [Instr.indexAt, asIntOf, hr, h0, h1, esz_ok hE hsz, Instr.sureAddr]; rfl, h, ?_⟩
          rw [Addr.add_add, Nat.add_assoc]
          exact .pval hd hi'
      · exact h.elim
    · exact h.elim
  · exact h.elim

/-- Where a field lies: its offset and its type. -/
def fld (E : Env) (T : TypeId) (f : Nat) : Option (Nat × TypeId) := match kd E T with
  | some (.struct fl) => fl[f]?
  | _ => none
def afldAddr (E : Env) (T : TypeId) (x : AV) (f : Nat) (K : AV → Prop) : Prop := match fld E T f with
  | some (off, t) => match esz E t with
    | some sz => sz ≠ 0 ∧ (match x with
      | .pvar id k => K (.pvar id (k + off))
      | .parr id i k => K (.parr id i (k + off))
      | .pval sz' xs i k => K (.pval sz' xs i (k + off))
      | _ => False)
    | none => False
  | none => False

theorem fld_some (hE : EnvOk E) {T : TypeId} {f : Nat} {off : Nat} {t : TypeId} (h : fld E T f = some (off, t)) :
    ∃ fs fl, (∀ w, (underlying T).run E.P w = .ok (.struct fs) w) ∧ fs[f]? = some fl ∧ fl.offset = off ∧ fl.type = t := by
  unfold fld at h
  split at h
  · rename_i l hk
    obtain ⟨d, hf, hr⟩ := kd_some hE hk
    obtain ⟨fs, rfl, rfl⟩ := hf
    rw [List.getElem?_map] at h
    cases hfl : fs.toList[f]? with
    | none => simp [hfl] at h
    | some fl =>
      simp [hfl] at h
      exact ⟨fs, fl, hr, by simpa using hfl, h.1, h.2⟩
  · simp at h

theorem afldAddr_ok (hE : EnvOk E) {T : TypeId} {f : Nat} {x : AV} {K : AV → Prop} (h : afldAddr E T x f K) {a : Value} (hx : RV w F Γ x a) :
    ∃ v av, (Instr.fieldAt T a f).run E.P w = .ok v w ∧ K av ∧ RV w F Γ av v := by
  unfold afldAddr at h
  split at h
  · rename_i off t hfl
    obtain ⟨fs, fl, hr, hf, rfl, rfl⟩ := fld_some hE hfl
    split at h
    · rename_i sz hsz
      obtain ⟨h0, h⟩ := h
      split at h
      · cases hx with
        | pvar hs hb =>
          refine ⟨_, _, by simp [Instr.fieldAt, hr, hf, Instr.sureAddr, fieldPlace, esz_ok hE hsz, h0]; rfl, h, ?_⟩
          rw [add_plain]
          exact .pvar hs hb
      · cases hx with
        | parr hs hb =>
          refine ⟨_, _, by simp [Instr.fieldAt, hr, hf, Instr.sureAddr, fieldPlace, esz_ok hE hsz, h0]; rfl, h, ?_⟩
          rw [add_plain, Nat.add_assoc]
          exact .parr hs hb
      · cases hx with
        | pval hd hi' =>
          refine ⟨_, _, by simp [Instr.fieldAt, hr, hf, Instr.sureAddr, fieldPlace, esz_ok hE hsz, h0]; rfl, h, ?_⟩
          rw [Addr.add_add, Nat.add_assoc]
          exact .pval hd hi'
      · exact h.elim
    · exact h.elim
  · exact h.elim

/-- A part of a struct's value. -/
def apart (E : Env) (t : TypeId) (cs : List AV) (off : Nat) (K : AV → Prop) : Prop := match ldK E t with
  | some none => match cs[off]? with
    | some av => K av
    | none => False
  | some (some n) => off + n ≤ cs.length ∧ K (mkAgg ((cs.drop off).take n))
  | none => False
theorem apart_ok (hE : EnvOk E) {t : TypeId} {cs : List AV} {off : Nat} {K : AV → Prop} (h : apart E t cs off K) {vs : Array Value} (hs : vs.size = cs.length) (h1 : ∀ j, j < vs.size → (vs.getD j undef).oneCell' = true)
    (hr : ∀ j d, cs[j]? = some d → RV w F Γ d (vs.getD j undef)) : ∃ v av, (part t vs off).run E.P w = .ok v w ∧ K av ∧ RV w F Γ av v := by
  unfold apart at h
  split at h
  · rename_i hT
    split at h
    · rename_i av hk
      obtain ⟨hlt, _⟩ := List.getElem?_eq_some_iff.1 hk
      have := getD_of (c := vs) (k := off) (by omega)
      exact ⟨_, _, by simp only [part, Sem.run_bind, run_agg_none hE hT, Result.andThen_ok, Bool.false_eq_true, if_false, this]; rfl, h, hr _ _ hk⟩
    · exact h.elim
  · rename_i n hT
    obtain ⟨hkn, hK⟩ := h
    refine ⟨_, _, by simp [part, (run_agg_some hE hT w).1, (run_agg_some hE hT w).2]; rfl, hK, ?_⟩
    refine mkAgg_ok _ _ (by simp; omega) (fun j hj => ?_) ?_
    · have hjn : j < n := by simp at hj; omega
      have := h1 (off + j) (by omega)
      rw [Array.getD_eq_getD_getElem?, Array.getElem?_extract, if_pos (by omega)]
      rwa [Array.getD_eq_getD_getElem?] at this
    intro j d hj
    rw [List.getElem?_take] at hj
    split at hj
    · rename_i hjn
      rw [List.getElem?_drop] at hj
      have := hr _ _ hj
      rw [Array.getD_eq_getD_getElem?, Array.getElem?_extract, if_pos (by omega)]
      rwa [Array.getD_eq_getD_getElem?] at this
    · simp at hj
  · exact h.elim
def afld (E : Env) (T : TypeId) (x : AV) (f : Nat) (K : AV → Prop) : Prop := match fld E T f with
  | some (off, t) => (match x with
    | .agg cs => apart E t cs off K
    | .d (.agg ds) => apart E t (ds.map .d) off K
    | _ => False)
  | none => False
theorem afld_ok (hE : EnvOk E) {T : TypeId} {f : Nat} {x : AV} {K : AV → Prop} (h : afld E T x f K) {a : Value} (hx : RV w F Γ x a) :
    ∃ v av, (Instr.field T a f).run E.P w = .ok v w ∧ K av ∧ RV w F Γ av v := by
  unfold afld at h
  split at h
  · rename_i off t hfl
    obtain ⟨fs, fl, hr, hf, rfl, rfl⟩ := fld_some hE hfl
    split at h
    · cases hx with
      | agg cs vs hs h1 hrr =>
        obtain ⟨v, av, h2, h3⟩ := apart_ok hE h hs h1 hrr
        exact ⟨v, av, by simp [Instr.field, hr, hf, asAgg, h2], h3⟩
    · have hd := hx.of_d
      rename_i ds
      cases hd with
      | agg _ vs hs h1 hrr =>
        obtain ⟨v, av, h2, h3⟩ := apart_ok (Γ := Γ) (w := w) (F := F) (vs := vs) hE h (by simpa using hs) h1
          (fun j d hj => by
            rw [List.getElem?_map] at hj
            cases hx : ds[j]? with
            | none => simp [hx] at hj
            | some x => simp [hx] at hj; subst hj; exact .d (hrr j x hx))
        exact ⟨v, av, by simp [Instr.field, hr, hf, asAgg, h2], h3⟩
    · exact h.elim
  · exact h.elim

def aext (x : AV) (i : Nat) (K : AV → Prop) : Prop := match x with
  | .tup vs => match vs[i]? with
    | some v => K v
    | none => False
  | .d (.tup ds) => match ds[i]? with
    | some v => K (.d v)
    | none => False
  | _ => False
theorem aext_ok {x : AV} {i : Nat} {K : AV → Prop} (h : aext x i K) {a : Value} (hx : RV w F Γ x a) (P : Program) :
    ∃ v av, (Instr.extract a i).run P w = .ok v w ∧ K av ∧ RV w F Γ av v := by
  unfold aext at h
  split at h
  · split at h
    · rename_i v hk
      cases hx with
      | tup cs vs hs hr =>
        obtain ⟨hlt, _⟩ := List.getElem?_eq_some_iff.1 hk
        have := getD_of (c := vs) (k := i) (by omega)
        exact ⟨_, _, by simp only [Instr.extract, this]; rfl, h, hr _ _ hk⟩
    · exact h.elim
  · split at h
    · rename_i v hk
      have hd := hx.of_d
      cases hd with
      | tup cs vs hs hr =>
        obtain ⟨hlt, _⟩ := List.getElem?_eq_some_iff.1 hk
        have := getD_of (c := vs) (k := i) (by omega)
        exact ⟨_, _, by simp only [Instr.extract, this]; rfl, h, .d (hr _ _ hk)⟩
    · exact h.elim
  · exact h.elim


/-! ### Slicing -/
def optI (d : Int) : Option AV → Option Int
  | none => some d
  | some (.d (.int _ n)) => some n
  | some _ => none
/-- A bound of a slice expression, and the value in its place. -/
def OV (w : World) (F : Nat → Prop) (Γ : List Slot) (a : Option AV) (v : Option Value) : Prop := match a, v with
  | none, none => True
  | some a, some v => RV w F Γ a v
  | _, _ => False
theorem optI_ok {d n : Int} {a : Option AV} {v : Option Value} (h : optI d a = some n) (hv : OV w F Γ a v) : (v = none ∧ n = d) ∨ ∃ k, v = some (.int k n) := by
  cases a with
  | none => cases v with
    | none => simp [optI] at h; exact .inl ⟨rfl, h.symm⟩
    | some v => exact hv.elim
  | some a => cases v with
    | none => exact hv.elim
    | some v =>
      have hv' : RV w F Γ a v := hv
      cases hv' with
      | d hd => cases hd <;> simp [optI] at h; subst h; exact .inr ⟨_, rfl⟩
      | _ => simp [optI] at h
theorem run_sliceBound {P : Program} {k : IntKind} {n : Int} {y : Nat} {code : BoundsCode} (h0 : 0 ≤ n) (h1 : n ≤ y) : (Instr.sliceBound (.int k n) y code).run P w = .ok n.toNat w := by
  simp [Instr.sliceBound, asIntOf, h0, h1]
theorem run_sliceBounds {P : Program} {len cap : Nat} {lo hi : Option Value} {l h : Int} (hl : (lo = none ∧ l = 0) ∨ ∃ k, lo = some (.int k l)) (hh : (hi = none ∧ h = len) ∨ ∃ k, hi = some (.int k h))
    (h0 : 0 ≤ l) (h1 : l ≤ h) (h2 : h ≤ cap) : (Instr.sliceBounds true len cap lo hi none).run P w = .ok (l.toNat, h.toNat, cap) w := by
  rcases hl with ⟨rfl, rfl⟩ | ⟨k, rfl⟩ <;> rcases hh with ⟨rfl, rfl⟩ | ⟨k', rfl⟩
  · simp [Instr.sliceBounds]
  · simp [Instr.sliceBounds, run_sliceBound (show 0 ≤ h by omega) h2]
  · simp [Instr.sliceBounds, run_sliceBound h0 h1]
  · have h3 : l ≤ (h.toNat : Int) := by omega
    simp [Instr.sliceBounds, run_sliceBound (show 0 ≤ h by omega) h2, run_sliceBound h0 h3]
theorem run_sliceBounds3 {P : Program} {len cap : Nat} {lo : Option Value} {k' k'' : IntKind} {l h m : Int} (hl : (lo = none ∧ l = 0) ∨ ∃ k, lo = some (.int k l))
    (h0 : 0 ≤ l) (h1 : l ≤ h) (h2 : h ≤ m) (h3 : m ≤ cap) : (Instr.sliceBounds true len cap lo (some (.int k' h)) (some (.int k'' m))).run P w = .ok (l.toNat, h.toNat, m.toNat) w := by
  have e1 : h ≤ (m.toNat : Int) := by omega
  have e2 : l ≤ (h.toNat : Int) := by omega
  rcases hl with ⟨rfl, rfl⟩ | ⟨k, rfl⟩
  · simp [Instr.sliceBounds, run_sliceBound (show 0 ≤ m by omega) h3, run_sliceBound (show 0 ≤ h by omega) e1]
  · simp [Instr.sliceBounds, run_sliceBound (show 0 ≤ m by omega) h3, run_sliceBound (show 0 ≤ h by omega) e1, run_sliceBound h0 e2]

theorem RD.sub {sz : Nat} {xs : List (List D)} {A : Option Addr} {c : Nat} (h : RD w F (.slice sz xs) (.slice A xs.length c)) {l k c' : Nat} {A' : Option Addr} (h1 : l ≤ k) (h2 : k ≤ xs.length) (hc' : k - l ≤ c')
    (hA' : l < k → A' = A.map (·.add (l * sz))) : RD w F (.slice sz ((xs.take k).drop l)) (.slice A' (k - l) c') := by
  generalize hn : xs.length = n at h
  cases h with
  | slice sz xs A c f hc ha hl hm hr =>
    have hlen : ((xs.take k).drop l).length = k - l := by simp; omega
    have hget : ∀ i, ((xs.take k).drop l)[i]? = if i < k - l then xs[i + l]? else none := fun i => by
      rw [List.getElem?_drop, List.getElem?_take]
      split <;> split <;> first | rfl | omega | (rw [Nat.add_comm])
    have := RD.slice (w := w) (F := F) sz ((xs.take k).drop l) A' c' (fun i j => f (i + l) j) (by rw [hlen]; exact hc')
      (fun h0 => by
        rw [hlen] at h0
        rw [hA' (by omega)]
        have := ha (by omega)
        simpa using this)
      (fun x hx => hl x (List.mem_of_mem_take (List.mem_of_mem_drop hx)))
      (fun i x j d hx hd => by
        rw [hget] at hx
        split at hx
        · rename_i hi
          obtain ⟨h0, a, ha', hb, hcell⟩ := hm _ _ _ _ hx hd
          refine ⟨h0, a.add (l * sz), by rw [hA' (by omega), ha']; rfl, by rw [add_block]; exact hb, ?_⟩
          rw [Addr.add_add, ← Nat.add_assoc, ← Nat.add_mul, Nat.add_comm l i]
          exact hcell
        · simp at hx)
      (fun i x j d hx hd => by
        rw [hget] at hx
        split at hx
        · exact hr _ _ _ _ hx hd
        · simp at hx)
    rw [hlen] at this
    exact this

def aslice (E : Env) (T : TypeId) (H : List AObj) (x : AV) (lo hi mx : Option AV) (K : AV → Prop) : Prop := match kd E T with
  | some (.slice e) => match esz E e with
    | none => False
    | some sz => match mx with
      | none => match x with
        | .d (.slice sz' xs) => (match optI 0 lo, optI xs.length hi with
          | some l, some h => sz' = sz ∧ 0 ≤ l ∧ l ≤ h ∧ h ≤ xs.length ∧ K (.d (.slice sz' ((xs.take h.toNat).drop l.toNat)))
          | _, _ => False)
        | .svalf sz' xs => (match optI 0 lo, optI xs.length hi with
          | some l, some h => sz' = sz ∧ 0 ≤ l ∧ l ≤ h ∧ h ≤ xs.length ∧ K (.d (.slice sz' ((xs.take h.toNat).drop l.toNat)))
          | _, _ => False)
        | .d .nils => (match optI 0 lo, optI 0 hi with
          | some l, some h => l = 0 ∧ h = 0 ∧ K (.d .nils)
          | _, _ => False)
        | .sfull id => (match H.getD id .none with
          | .arr _ sz' xs => (match optI 0 lo, optI xs.length hi with
            | some l, some h => sz' = sz ∧ 0 ≤ l ∧ l ≤ h ∧ h ≤ xs.length ∧ K (.spart id l.toNat (h - l).toNat)
            | _, _ => False)
          | _ => False)
        | .spart id lo' n => (match H.getD id .none with
          | .arr _ sz' xs => (match optI 0 lo, optI n hi with
            | some l, some h => sz' = sz ∧ 0 ≤ l ∧ l ≤ h ∧ h ≤ n ∧ K (.spart id (lo' + l.toNat) (h - l).toNat)
            | _, _ => False)
          | _ => False)
        | _ => False
      | some (.d (.int _ m)) => match hi, x with
        | some (.d (.int _ h)), .d (.slice sz' xs) => (match optI 0 lo with
          | some l => sz' = sz ∧ m = h ∧ 0 ≤ l ∧ l ≤ h ∧ h ≤ xs.length ∧ K (.svalf sz' ((xs.take h.toNat).drop l.toNat))
          | none => False)
        | some (.d (.int _ h)), .svalf sz' xs => (match optI 0 lo with
          | some l => sz' = sz ∧ m = h ∧ 0 ≤ l ∧ l ≤ h ∧ h ≤ xs.length ∧ K (.svalf sz' ((xs.take h.toNat).drop l.toNat))
          | none => False)
        | some (.d (.int _ h)), .d .nils => (match optI 0 lo with
          | some l => m = h ∧ l = 0 ∧ h = 0 ∧ K (.d .nils)
          | none => False)
        | _, _ => False
      | _ => False
  | _ => False

theorem toNat_sub' {l h : Int} (h0 : 0 ≤ l) : h.toNat - l.toNat = (h - l).toNat := by omega

theorem aslice_val (hE : EnvOk E) {T e : TypeId} {sz : Nat} (hr : ∀ w, (underlying T).run E.P w = .ok (.slice e) w) (hsz : esz E e = some sz) {xs : List (List D)} {A : Option Addr} {c : Nat}
    (hd : RD w F (.slice sz xs) (.slice A xs.length c)) {lo hi : Option Value} {l h : Int} (hl : (lo = none ∧ l = 0) ∨ ∃ k, lo = some (.int k l))
    (hh : (hi = none ∧ h = xs.length) ∨ ∃ k, hi = some (.int k h)) (h0 : 0 ≤ l) (h1 : l ≤ h) (h2 : h ≤ xs.length) :
    ∃ v, (Instr.sliceAt T (.slice A xs.length c) lo hi none).run E.P w = .ok v w ∧ RV w F Γ (.d (.slice sz ((xs.take h.toNat).drop l.toNat))) v := by
  have hc : xs.length ≤ c := by
    obtain ⟨A', c', e', hc, _⟩ := hd.slice_inv
    injection e' with _ _ e3
    omega
  have hb := run_sliceBounds (w := w) (P := E.P) hl hh h0 h1 (show h ≤ (c : Int) by omega)
  refine ⟨_, by simp [Instr.sliceAt, Instr.slice, hr, hb, esz_ok hE hsz]; rfl, .d ?_⟩
  exact hd.sub (by omega) (by omega) (by omega) (fun hlt => by rw [if_neg (by omega)])

theorem aslice_ok (hE : EnvOk E) (hS : SR E w F Γ H) {T : TypeId} {x : AV} {lo hi mx : Option AV} {K : AV → Prop} (h : aslice E T H x lo hi mx K) {v : Value} {lv hv mv : Option Value}
    (hx : RV w F Γ x v) (hlo : OV w F Γ lo lv) (hhi : OV w F Γ hi hv) (hmx : OV w F Γ mx mv) :
    ∃ u av, (Instr.sliceAt T v lv hv mv).run E.P w = .ok u w ∧ K av ∧ RV w F Γ av u := by
  unfold aslice at h
  split at h <;> try exact h.elim
  rename_i e hk
  obtain ⟨d, hf, hr⟩ := kd_some hE hk
  simp only [Kd.fits] at hf
  subst hf
  split at h <;> try exact h.elim
  rename_i sz hsz
  split at h
  · -- two bounds
    have hmv : mv = none := by cases mv with
      | none => rfl
      | some m => exact hmx.elim
    subst hmv
    split at h
    · rename_i sz' xs
      split at h <;> try exact h.elim
      rename_i l hh e1 e2
      obtain ⟨rfl, h0, h1, h2, hK⟩ := h
      have hd := hx.of_d
      obtain ⟨A, c, rfl, _⟩ := hd.slice_inv
      obtain ⟨u, hu, hru⟩ := aslice_val hE hr hsz hd (optI_ok e1 hlo) (optI_ok e2 hhi) h0 h1 h2
      exact ⟨u, _, hu, hK, hru⟩
    · rename_i sz' xs
      split at h <;> try exact h.elim
      rename_i l hh e1 e2
      obtain ⟨rfl, h0, h1, h2, hK⟩ := h
      cases hx with
      | svalf hd =>
        obtain ⟨u, hu, hru⟩ := aslice_val hE hr hsz hd (optI_ok e1 hlo) (optI_ok e2 hhi) h0 h1 h2
        exact ⟨u, _, hu, hK, hru⟩
    · split at h <;> try exact h.elim
      rename_i l hh e1 e2
      obtain ⟨rfl, rfl, hK⟩ := h
      have hd := hx.of_d
      cases hd with
      | nils =>
        have hb := run_sliceBounds (w := w) (P := E.P) (len := 0) (cap := 0) (optI_ok e1 hlo) (optI_ok e2 hhi) (Int.le_refl 0) (Int.le_refl 0) (by simp)
        exact ⟨_, _, by simp [Instr.sliceAt, Instr.slice, hr, hb, esz_ok hE hsz], hK, .d .nils⟩
    · split at h <;> try exact h.elim
      rename_i id _ _ sz' xs ho
      split at h <;> try exact h.elim
      rename_i l hh e1 e2
      obtain ⟨rfl, h0, h1, h2, hK⟩ := h
      cases hx with
      | sfull hs hA =>
        rename_i s A
        obtain ⟨_, hz, hlen, hcap, hl, hro⟩ := obj_at hS hs ho rfl
        have hb := run_sliceBounds (w := w) (P := E.P) (len := s.len) (cap := s.cap) (optI_ok e1 hlo) (by rw [hlen]; exact optI_ok e2 hhi) h0 h1 (by omega)
        refine ⟨_, _, by simp [Instr.sliceAt, Instr.slice, hr, hb, esz_ok hE hsz]; rfl, hK, ?_⟩
        rw [toNat_sub' h0]
        refine .spart hs (by omega) (fun hn => ?_)
        rcases hro with ⟨hn', hc0⟩ | ⟨b, c, hb', _⟩
        · omega
        · refine ⟨b, hb', ?_⟩
          rw [hA b hb', if_neg (by omega)]
          simp [add_plain, hz]
    · split at h <;> try exact h.elim
      rename_i id lo' n _ _ sz' xs ho
      split at h <;> try exact h.elim
      rename_i l hh e1 e2
      obtain ⟨rfl, h0, h1, h2, hK⟩ := h
      cases hx with
      | spart hs hn ha =>
        rename_i c s A
        obtain ⟨_, hz, hlen, hcap, hl, hro⟩ := obj_at hS hs ho rfl
        have hb := run_sliceBounds (w := w) (P := E.P) (len := n) (cap := c) (optI_ok e1 hlo) (optI_ok e2 hhi) h0 h1 (by omega)
        refine ⟨_, _, by simp [Instr.sliceAt, Instr.slice, hr, hb, esz_ok hE hsz]; rfl, hK, ?_⟩
        rw [toNat_sub' h0]
        refine .spart hs (by omega) (fun hn' => ?_)
        obtain ⟨b, hb', rfl⟩ := ha (by omega)
        refine ⟨b, hb', ?_⟩
        rw [if_neg (by omega)]
        simp [add_plain, hz, Nat.add_mul]
    · exact h.elim
  · -- three bounds
    rename_i k3 m
    have hmv : ∃ k, mv = some (.int k m) := by
      rcases optI_ok (d := 0) (n := m) rfl hmx with ⟨hm, _⟩ | hm
      · subst hm; exact hmx.elim
      · exact hm
    obtain ⟨km, rfl⟩ := hmv
    split at h
    · rename_i k4 hh sz' xs
      split at h <;> try exact h.elim
      rename_i l e1
      obtain ⟨rfl, rfl, h0, h1, h2, hK⟩ := h
      have hhv : ∃ k, hv = some (.int k m) := by
        rcases optI_ok (d := 0) (n := m) rfl hhi with ⟨hm, _⟩ | hm
        · subst hm; exact hhi.elim
        · exact hm
      obtain ⟨kh, rfl⟩ := hhv
      have hd := hx.of_d
      obtain ⟨A, c, rfl, hc, _⟩ := hd.slice_inv
      have hb := run_sliceBounds3 (w := w) (P := E.P) (len := xs.length) (cap := c) (k' := kh) (k'' := km) (optI_ok e1 hlo) h0 h1 (Int.le_refl m) (by omega)
      refine ⟨_, _, by simp [Instr.sliceAt, Instr.slice, hr, hb, esz_ok hE hsz]; rfl, hK, ?_⟩
      have hlen : ((xs.take m.toNat).drop l.toNat).length = m.toNat - l.toNat := by simp; omega
      have hsub := hd.sub (c' := m.toNat - l.toNat) (A' := if m.toNat = l.toNat then A else A.map (·.add (l.toNat * sz'))) (show l.toNat ≤ m.toNat by omega) (show m.toNat ≤ xs.length by omega) (Nat.le_refl _)
        (fun hlt => by rw [if_neg (by omega)])
      rw [← hlen] at hsub ⊢
      exact .svalf hsub
    · rename_i k4 hh sz' xs
      split at h <;> try exact h.elim
      rename_i l e1
      obtain ⟨rfl, rfl, h0, h1, h2, hK⟩ := h
      have hhv : ∃ k, hv = some (.int k m) := by
        rcases optI_ok (d := 0) (n := m) rfl hhi with ⟨hm, _⟩ | hm
        · subst hm; exact hhi.elim
        · exact hm
      obtain ⟨kh, rfl⟩ := hhv
      cases hx with
      | svalf hd =>
        rename_i A
        have hb := run_sliceBounds3 (w := w) (P := E.P) (len := xs.length) (cap := xs.length) (k' := kh) (k'' := km) (optI_ok e1 hlo) h0 h1 (Int.le_refl m) (by omega)
        refine ⟨_, _, by simp [Instr.sliceAt, Instr.slice, hr, hb, esz_ok hE hsz]; rfl, hK, ?_⟩
        have hlen : ((xs.take m.toNat).drop l.toNat).length = m.toNat - l.toNat := by simp; omega
        have hsub := hd.sub (c' := m.toNat - l.toNat) (A' := if m.toNat = l.toNat then A else A.map (·.add (l.toNat * sz'))) (show l.toNat ≤ m.toNat by omega) (show m.toNat ≤ xs.length by omega) (Nat.le_refl _)
          (fun hlt => by rw [if_neg (by omega)])
        rw [← hlen] at hsub ⊢
        exact .svalf hsub
    · rename_i k4 hh
      split at h <;> try exact h.elim
      rename_i l e1
      obtain ⟨rfl, rfl, rfl, hK⟩ := h
      have hhv : ∃ k, hv = some (.int k 0) := by
        rcases optI_ok (d := 0) (n := 0) rfl hhi with ⟨hm, _⟩ | hm
        · subst hm; exact hhi.elim
        · exact hm
      obtain ⟨kh, rfl⟩ := hhv
      have hd := hx.of_d
      cases hd with
      | nils =>
        have hb := run_sliceBounds3 (w := w) (P := E.P) (len := 0) (cap := 0) (k' := kh) (k'' := km) (optI_ok e1 hlo) (Int.le_refl 0) (Int.le_refl 0) (Int.le_refl 0) (by simp)
        exact ⟨_, _, by simp [Instr.sliceAt, Instr.slice, hr, hb, esz_ok hE hsz], hK, .d .nils⟩
    · exact h.elim
  · exact h.elim

end
end Go.Abs
