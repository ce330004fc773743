/-
  Memory by value. A value of the machine is described by a term of plain data ('D': whole numbers, strings, rows, structs ..), or by a reference
  to an object that the code at hand owns ('AV'); the objects stand in a list ('AObj'). What is described by plain data lies in blocks that
  nobody writes any more ('F'); what is owned lies in blocks apart from these and from one another.
-/
import Derived.WalkKit
import Derived.DataElems
import Derived.RangeFuncLeaves
import Derived.MapKept
set_option autoImplicit false
set_option linter.unusedVariables false
set_option linter.unusedSimpArgs false
namespace Go.Abs

inductive D where
  | int (k : IntKind) (n : Int)
  | bool (b : Bool)
  | str (s : ByteArray)
  | nilp | nilf | nili | nilm | nils
  | slice (sz : Nat) (xs : List (List D))
  | agg (cs : List D)
  | tup (vs : List D)
  | iface (t : TypeId) (v : D)
  | func (f : FuncId) (caps : List D)
  | ptr (a : Addr)
  deriving Inhabited

def D.one : D → Bool
  | .agg _ | .tup _ => false
  | _ => true

/-- The value v reads as the datum d; the rows that it shows lie in blocks of F. -/
inductive RD (w : World) (F : Nat → Prop) : D → Value → Prop
  | int (k : IntKind) (n : Int) : RD w F (.int k n) (.int k n)
  | bool (b : Bool) : RD w F (.bool b) (.bool b)
  | str (s : ByteArray) : RD w F (.str s) (.string s)
  | nilp : RD w F .nilp (.pointer none)
  | nilf : RD w F .nilf .nilFunc
  | nili : RD w F .nili .nilIface
  | nilm : RD w F .nilm (.map none)
  | nils : RD w F .nils (.slice none 0 0)
  | slice (sz : Nat) (xs : List (List D)) (A : Option Addr) (c : Nat) (f : Nat → Nat → Value)
      (hc : xs.length ≤ c) (ha : 0 < xs.length → A.isSome = true) (hl : ∀ x ∈ xs, x.length = sz)
      (hm : ∀ i x j d, xs[i]? = some x → x[j]? = some d → (f i j).oneCell' = true ∧ ∃ a, A = some a ∧ F a.block ∧ w.cell? (a.add (i * sz + j)) = some (f i j))
      (hr : ∀ i x j d, xs[i]? = some x → x[j]? = some d → RD w F d (f i j)) : RD w F (.slice sz xs) (.slice A xs.length c)
  | agg (cs : List D) (vs : Array Value) (hs : vs.size = cs.length) (h1 : ∀ j, j < vs.size → (vs.getD j undef).oneCell' = true)
      (hr : ∀ j d, cs[j]? = some d → RD w F d (vs.getD j undef)) : RD w F (.agg cs) (.agg vs)
  | tup (cs : List D) (vs : Array Value) (hs : vs.size = cs.length)
      (hr : ∀ j d, cs[j]? = some d → RD w F d (vs.getD j undef)) : RD w F (.tup cs) (.tuple vs)
  | iface (t : TypeId) (d : D) (v : Value) (hr : RD w F d v) : RD w F (.iface t d) (.iface t v)
  | func (f : FuncId) (cs : List D) (vs : Array Value) (hs : vs.size = cs.length)
      (hr : ∀ j d, cs[j]? = some d → RD w F d (vs.getD j undef)) : RD w F (.func f cs) (.func (.func f) #[] vs)
  | ptr (a : Addr) : RD w F (.ptr a) (.pointer (some a))

theorem add_block (a : Addr) (n : Nat) : (a.add n).block = a.block := by unfold Addr.add; split <;> rfl
theorem add_plain (b o j : Nat) : (⟨b, o, none⟩ : Addr).add j = ⟨b, o + j, none⟩ := by unfold Addr.add; split <;> simp_all

theorem RD.mono {w w' : World} {F F' : Nat → Prop} (hF : ∀ b, F b → F' b) (hw : ∀ b, F b → w'.heap[b]? = w.heap[b]?) {d : D} {v : Value}
    (h : RD w F d v) : RD w' F' d v := by
  induction h with
  | int k n => exact .int k n
  | bool b => exact .bool b
  | str s => exact .str s
  | nilp => exact .nilp
  | nilf => exact .nilf
  | nili => exact .nili
  | nilm => exact .nilm
  | nils => exact .nils
  | slice sz xs A c f hc ha hl hm hr ih =>
    refine .slice sz xs A c f hc ha hl (fun i x j d h1 h2 => ?_) ih
    obtain ⟨h0, a, e, hb, hcell⟩ := hm i x j d h1 h2
    refine ⟨h0, a, e, hF _ hb, ?_⟩
    rw [← hcell]
    exact World.cell?_of_block (w := w) (w' := w') (by rw [add_block]; exact hw _ hb)
  | agg cs vs hs h1 hr ih => exact .agg cs vs hs h1 ih
  | tup cs vs hs hr ih => exact .tup cs vs hs ih
  | iface t d v hr ih => exact .iface t d v ih
  | func f cs vs hs hr ih => exact .func f cs vs hs ih
  | ptr a => exact .ptr a

theorem RD.one_iff {w : World} {F : Nat → Prop} {d : D} {v : Value} (h : RD w F d v) : v.oneCell' = d.one := by
  cases h <;> rfl

inductive AV where
  | dead
  | d (x : D)
  | pvar (id k : Nat)
  | parr (id i k : Nat)
  | pval (sz : Nat) (xs : List (List D)) (i k : Nat)
  | svalf (sz : Nat) (xs : List (List D))
  | sfull (id : Nat)
  | spart (id lo n : Nat)
  | mapo (id : Nat)
  | func (f : FuncId) (caps : List AV)
  | yield (id : Nat)
  | iface (t : TypeId) (v : AV)
  | agg (cs : List AV)
  | tup (vs : List AV)
  deriving Inhabited

def AV.one : AV → Bool
  | .d x => x.one
  | .agg _ | .tup _ | .dead => false
  | _ => true

structure Slot where
  b : Option Nat
  sz : Nat
  len : Nat
  cap : Nat
  deriving Inhabited

inductive RV (w : World) (F : Nat → Prop) (Γ : List Slot) : AV → Value → Prop
  | dead (v : Value) : RV w F Γ .dead v
  | d {x : D} {v : Value} (h : RD w F x v) : RV w F Γ (.d x) v
  | pvar {id k : Nat} {s : Slot} {b : Nat} (hs : Γ[id]? = some s) (hb : s.b = some b) : RV w F Γ (.pvar id k) (.pointer (some ⟨b, k, none⟩))
  | parr {id i k : Nat} {s : Slot} {b : Nat} (hs : Γ[id]? = some s) (hb : s.b = some b) : RV w F Γ (.parr id i k) (.pointer (some ⟨b, i * s.sz + k, none⟩))
  | pval {sz : Nat} {xs : List (List D)} {i k c : Nat} {a : Addr} (h : RD w F (.slice sz xs) (.slice (some a) xs.length c)) (hi : i < xs.length) :
      RV w F Γ (.pval sz xs i k) (.pointer (some (a.add (i * sz + k))))
  | svalf {sz : Nat} {xs : List (List D)} {A : Option Addr} (h : RD w F (.slice sz xs) (.slice A xs.length xs.length)) :
      RV w F Γ (.svalf sz xs) (.slice A xs.length xs.length)
  | sfull {id : Nat} {s : Slot} {A : Option Addr} (hs : Γ[id]? = some s) (hA : ∀ b, s.b = some b → A = some ⟨b, 0, none⟩) : RV w F Γ (.sfull id) (.slice A s.len s.cap)
  | spart {id lo n c : Nat} {s : Slot} {A : Option Addr} (hs : Γ[id]? = some s) (hn : n ≤ c)
      (ha : 0 < n → ∃ b, s.b = some b ∧ A = some ⟨b, lo * s.sz, none⟩) : RV w F Γ (.spart id lo n) (.slice A n c)
  | mapo {id : Nat} {s : Slot} {b : Nat} (hs : Γ[id]? = some s) (hb : s.b = some b) : RV w F Γ (.mapo id) (.map (some b))
  | func (f : FuncId) (cs : List AV) (vs : Array Value) (hs : vs.size = cs.length)
      (hr : ∀ j d, cs[j]? = some d → RV w F Γ d (vs.getD j undef)) : RV w F Γ (.func f cs) (.func (.func f) #[] vs)
  | yield {id : Nat} {s : Slot} {b : Nat} (hs : Γ[id]? = some s) (hb : s.b = some b) : RV w F Γ (.yield id) (.func (.yield b) #[] #[])
  | iface (t : TypeId) (d : AV) (v : Value) (hr : RV w F Γ d v) : RV w F Γ (.iface t d) (.iface t v)
  | agg (cs : List AV) (vs : Array Value) (hs : vs.size = cs.length) (h1 : ∀ j, j < vs.size → (vs.getD j undef).oneCell' = true)
      (hr : ∀ j d, cs[j]? = some d → RV w F Γ d (vs.getD j undef)) : RV w F Γ (.agg cs) (.agg vs)
  | tup (cs : List AV) (vs : Array Value) (hs : vs.size = cs.length)
      (hr : ∀ j d, cs[j]? = some d → RV w F Γ d (vs.getD j undef)) : RV w F Γ (.tup cs) (.tuple vs)

/-- What is described stays described while F's blocks stay and the slots keep their places. -/
theorem RV.mono {w w' : World} {F F' : Nat → Prop} {Γ Γ' : List Slot} (hF : ∀ b, F b → F' b) (hw : ∀ b, F b → w'.heap[b]? = w.heap[b]?)
    (hΓ : ∀ (id : Nat) s, Γ[id]? = some s → Γ'[id]? = some s) {d : AV} {v : Value} (h : RV w F Γ d v) : RV w' F' Γ' d v := by
  induction h with
  | dead v => exact .dead v
  | d h => exact .d (h.mono hF hw)
  | pvar hs hb => exact .pvar (hΓ _ _ hs) hb
  | parr hs hb => exact .parr (hΓ _ _ hs) hb
  | pval h hi => exact .pval (h.mono hF hw) hi
  | svalf h => exact .svalf (h.mono hF hw)
  | sfull hs hA => exact .sfull (hΓ _ _ hs) hA
  | spart hs hn ha => exact .spart (hΓ _ _ hs) hn ha
  | mapo hs hb => exact .mapo (hΓ _ _ hs) hb
  | func f cs vs hs hr ih => exact .func f cs vs hs ih
  | yield hs hb => exact .yield (hΓ _ _ hs) hb
  | iface t d v hr ih => exact .iface t d v ih
  | agg cs vs hs h1 hr ih => exact .agg cs vs hs h1 ih
  | tup cs vs hs hr ih => exact .tup cs vs hs ih

theorem RV.one {w : World} {F : Nat → Prop} {Γ : List Slot} {d : AV} {v : Value} (h : RV w F Γ d v) (h1 : d.one = true) : v.oneCell' = true := by
  cases h with
  | dead v => simp [AV.one] at h1
  | d h => rw [h.one_iff]; exact h1
  | agg cs vs hs h1' hr => simp [AV.one] at h1
  | tup cs vs hs hr => simp [AV.one] at h1
  | _ => rfl

inductive AObj where
  | none
  | var (cs : List AV)
  | arr (ty : TypeId) (sz : Nat) (xs : List (List D))
  | map (es : List (D × D))
  | mapb (es : List (D × D)) (bs : List Nat) (clk : Nat)
  | iter (m : Nat) (bs : List Nat) (clk : Nat) (idx : List Nat)
  | loop (fn : FuncId) (t : List AV) (ps : List Tmp) (assign body : Code) (st : Option (Option Code))
  | defr

instance : Inhabited AObj := ⟨.none⟩
/-- How a loop over a function stands: nobody is in a round, and nothing is pending; one is in a round; a round has left it. -/
def LoopAt (st : Option (Option Code)) (l : Loop) : Prop := match st with
  | some none => l.state = .ready ∧ l.pending = none
  | none => l.state = .busy
  | some (some c) => l.state = .done ∧ l.pending = some c

def AObj.live : AObj → Bool
  | .none => false
  | _ => true

/-- An object, in the world. -/
def RO (w : World) (F : Nat → Prop) (Γ : List Slot) (s : Slot) : AObj → Prop
  | .none => True
  | .defr => ∃ b, s.b = some b ∧ w.heap[b]? = some (.deferred (some []))
  | .var cs => ∃ b c ty, s.b = some b ∧ w.heap[b]? = some (.cells c ty (0, 0)) ∧ c.size = cs.length ∧
      ∀ j av, cs[j]? = some av → (c.getD j undef).oneCell' = true ∧ RV w F Γ av (c.getD j undef)
  | .map es => ∃ b arr clock, s.b = some b ∧ w.heap[b]? = some (.map arr clock) ∧ arr.size = es.length ∧
      (∀ (i : Nat) k v, es[i]? = some (k, v) → ∃ me : MapEntry, arr[i]? = some me ∧ RD w F k me.key ∧ RD w F v me.val ∧ me.born < clock) ∧
      (∀ (i j : Nat) (mi mj : MapEntry), arr[i]? = some mi → arr[j]? = some mj → mi.born = mj.born → i = j)
  | .mapb es bs clk => ∃ b arr, s.b = some b ∧ w.heap[b]? = some (.map arr clk) ∧ arr.size = es.length ∧ bs.length = es.length ∧
      (∀ (i : Nat) k v, es[i]? = some (k, v) → ∃ me : MapEntry, arr[i]? = some me ∧ RD w F k me.key ∧ RD w F v me.val ∧ bs[i]? = some me.born) ∧
      bs.Nodup ∧ ∀ x ∈ bs, x < clk
  | .iter m bs clk idx => ∃ (b mb : Nat) (sm : Slot) (seen : Array Nat), s.b = some b ∧ Γ[m]? = some sm ∧ sm.b = some mb ∧ w.heap[b]? = some (.mapIter (some mb) clk seen clk) ∧
      seen.toList = idx.map fun i => bs.getD i 0
  | .loop fn t ps assign body st => ∃ (b : Nat) (l : Loop), s.b = some b ∧ w.heap[b]? = some (.loop l) ∧ l.fn = fn ∧ l.params.toList = ps ∧ l.assign = assign ∧ l.body = body ∧ LoopAt st l ∧
      l.tmps.size = t.length ∧ ∀ (j : Nat) av, t[j]? = some av → RV w F Γ av (l.tmps.getD j undef)
  | .arr ty sz xs => s.sz = sz ∧ s.len = xs.length ∧ xs.length ≤ s.cap ∧ (∀ x ∈ xs, x.length = sz) ∧
      ((s.b = none ∧ s.cap = 0) ∨ ∃ b c, s.b = some b ∧ w.heap[b]? = some (.cells c ty (0, 0)) ∧ s.cap * sz = c.size ∧
        ∀ i x j d, xs[i]? = some x → x[j]? = some d → (c.getD (i * sz + j) undef).oneCell' = true ∧ RD w F d (c.getD (i * sz + j) undef))


def LiveB (Γ : List Slot) (H : List AObj) (b : Nat) : Prop :=
  ∃ (id : Nat) (s : Slot) (o : AObj), Γ[id]? = some s ∧ H[id]? = some o ∧ o.live = true ∧ s.b = some b

inductive Kd where
  | int (k : IntKind) | bool | string | slice (e : TypeId) | array (n : Nat) (e : TypeId) | struct (fl : List (Nat × TypeId)) | map (k e : TypeId)
  | ptr (e : TypeId) | iface | func | tuple

def Kd.fits : Kd → TypeDesc → Prop
  | .int k, d => d = .int k
  | .bool, d => d = .bool
  | .string, d => d = .string
  | .slice e, d => d = .slice e
  | .array n e, d => d = .array n e
  | .struct fl, d => ∃ fs, d = .struct fs ∧ fs.toList.map (fun f => (f.offset, f.type)) = fl
  | .map k e, d => d = .map k e
  | .ptr e, d => d = .pointer e
  | .iface, d => ∃ ms, d = .interface ms
  | .func, d => ∃ a b c, d = .func a b c
  | .tuple, d => ∃ ts, d = .tuple ts

structure TI where
  k : Kd
  size : Nat
  bytes : Nat
  zero : List D

/-- The zero value of a type. -/
def TI.zv (i : TI) : D := match i.k with
  | .struct _ => .agg i.zero
  | .array _ _ => .agg i.zero
  | _ => i.zero.getD 0 .nilp

/-! ### Keys of maps -/
def skeq : D → D → Bool
  | .int k a, .int k' b => k == k' && a == b
  | .bool a, .bool b => a == b
  | .str a, .str b => a == b
  | _, _ => false
def skeqL : List D → List D → Bool
  | [], [] => true
  | a :: r, b :: s => skeq a b && skeqL r s
  | _, _ => false
def dkeq : D → D → Bool
  | .agg r, .agg s => skeqL r s
  | a, b => skeq a b

/-- A key type: g tells which data are keys of it. -/
structure KeyLaw (P : Program) (t : TypeId) (g : D → Bool) : Prop where
  chk : ∀ w F k v e, g k = true → RD w F k v → (Instr.checkKey e 10000 t v).run P w = .ok () w
  find : ∀ w F k v (ks : List D) (es : List MapEntry), g k = true → RD w F k v → ks.length = es.length →
    (∀ (i : Nat) d, ks[i]? = some d → g d = true ∧ ∃ e, es[i]? = some e ∧ RD w F d e.key) →
    (Instr.findKey t v es).run P w = .ok ((ks.findIdx? (dkeq k)).map fun i => (i, (es.getD i default).val)) w
  stay : ∀ w F k d v u, g k = true → g d = true → dkeq k d = true → RD w F k v → RD w F d u → (Instr.keyThatStays u v).run P w = .ok v w

/-- A type whose values are compared part by part: g tells which data are values of it. -/
structure CmpLaw (P : Program) (t : TypeId) (g : D → Bool) : Prop where
  eq : ∀ w F a b u v, g a = true → g b = true → RD w F a u → RD w F b v → (Op.equal t u v).run P w = .ok (dkeq a b) w
  grd : ∀ op x y w F a b u v, g a = true → g b = true → RD w F a u → RD w F b v → (eqGuard op t x y u v).run P w = .ok () w
  bin : ∀ op w F a b u v, g a = true → g b = true → RD w F a u → RD w F b v → op = .eql ∨ op = .neq → binOp op t u v = (if op = .eql then do pure (.bool (← Op.equal t u v)) else do pure (.bool (!(← Op.equal t u v))))

structure Env where
  P : Program
  ty : TypeId → Option TI
  gl : Nat → Option (Nat × List (List D))
  ext : FuncId → Option (List AV → Option AV)
  key : TypeId → Option (D → Bool) := fun _ => none
  cmp : TypeId → Option (D → Bool) := fun _ => none

/-- Values as described, one by one. -/
def RVL (w : World) (F : Nat → Prop) (Γ : List Slot) (as : List AV) (vs : Array Value) : Prop :=
  vs.size = as.length ∧ ∀ j av, as[j]? = some av → RV w F Γ av (vs.getD j undef)

structure EnvOk (E : Env) : Prop where
  desc : ∀ t i, E.ty t = some i → ∃ d, E.P.underlying t = some d ∧ i.k.fits d
  info : ∀ t i, E.ty t = some i → ∃ inf z, E.P.info? t = some inf ∧ inf.size = i.size ∧ inf.bytes = i.bytes ∧ inf.zero = some z ∧
    z.cells.size = i.zero.length ∧ i.zero.length = i.size ∧ (∀ j d, i.zero[j]? = some d → (z.cells.getD j undef).oneCell' = true ∧ ∀ w F, RD w F d (z.cells.getD j undef)) ∧ ∀ w F, RD w F i.zv z
  key : ∀ t g, E.key t = some g → KeyLaw E.P t g
  cmp : ∀ t g, E.cmp t = some g → CmpLaw E.P t g
  mixed : E.P.follows .mixedOrders = true
  ext : ∀ g f, E.ext g = some f → ∀ as v, f as = some v → ∀ w F Γ vs, RVL w F Γ as vs → ∃ u, (callFunc g vs).run E.P w = .ok (.value u) w ∧ RV w F Γ v u

structure SR (E : Env) (w : World) (F : Nat → Prop) (Γ : List Slot) (H : List AObj) : Prop where
  len : Γ.length = H.length
  obj : ∀ (id : Nat) s o, Γ[id]? = some s → H[id]? = some o → RO w F Γ s o
  sep : ∀ (id : Nat) s o b, Γ[id]? = some s → H[id]? = some o → o.live = true → s.b = some b → ¬ F b
  inj : ∀ (i j : Nat) si sj oi oj b, Γ[i]? = some si → Γ[j]? = some sj → H[i]? = some oi → H[j]? = some oj → oi.live = true → oj.live = true → si.b = some b → sj.b = some b → i = j
  low : ∀ b, F b → b < w.heap.size
  glob : ∀ g sz xs, E.gl g = some (sz, xs) → RV w F [] (.pval sz xs 0 0) (.pointer (some ⟨g, 0, none⟩))

/-- From one state to a later one: only what was owned, and what is new, has been written. -/
structure Ext (n0 : Nat) (w : World) (F : Nat → Prop) (Γ : List Slot) (H : List AObj) (w' : World) (F' : Nat → Prop) (Γ' : List Slot) (H' : List AObj) : Prop where
  os : w'.os = w.os
  tape : w'.tape = w.tape
  output : w'.output = w.output
  size : w.heap.size ≤ w'.heap.size
  unch : ∀ b, b < w.heap.size → ¬ LiveB Γ H b → w'.heap[b]? = w.heap[b]?
  sub : ∀ b, F b → F' b
  new : ∀ b, F' b → b < w.heap.size → F b ∨ LiveB Γ H b
  live : ∀ b, LiveB Γ' H' b → b < w.heap.size → LiveB Γ H b
  pre : ∀ id, id < n0 → Γ'[id]? = Γ[id]?
  nlen : n0 ≤ Γ'.length

theorem Ext.refl {n0 : Nat} {w : World} {F : Nat → Prop} {Γ : List Slot} {H : List AObj} (h : n0 ≤ Γ.length) : Ext n0 w F Γ H w F Γ H :=
  ⟨rfl, rfl, rfl, Nat.le_refl _, fun _ _ _ => rfl, fun _ h => h, fun _ h _ => .inl h, fun _ h _ => h, fun _ _ => rfl, h⟩

theorem Ext.trans {n0 n1 : Nat} {w w1 w2 : World} {F F1 F2 : Nat → Prop} {Γ Γ1 Γ2 : List Slot} {H H1 H2 : List AObj} (hn : n0 ≤ n1)
    (h : Ext n0 w F Γ H w1 F1 Γ1 H1) (k : Ext n1 w1 F1 Γ1 H1 w2 F2 Γ2 H2) : Ext n0 w F Γ H w2 F2 Γ2 H2 where
  os := k.os.trans h.os
  tape := k.tape.trans h.tape
  output := k.output.trans h.output
  size := Nat.le_trans h.size k.size
  unch b hb hl := (k.unch b (Nat.lt_of_lt_of_le hb h.size) (fun hl' => hl (h.live b hl' hb))).trans (h.unch b hb hl)
  sub b hb := k.sub b (h.sub b hb)
  new b hb hlt := by
    rcases k.new b hb (Nat.lt_of_lt_of_le hlt h.size) with h1 | h1
    · exact h.new b h1 hlt
    · exact .inr (h.live b h1 hlt)
  live b hb hlt := h.live b (k.live b hb (Nat.lt_of_lt_of_le hlt h.size)) hlt
  pre id hid := (k.pre id (Nat.lt_of_lt_of_le hid hn)).trans (h.pre id hid)
  nlen := Nat.le_trans hn k.nlen

/-- F's blocks stay. -/
theorem Ext.stay {E : Env} {n0 : Nat} {w w' : World} {F F' : Nat → Prop} {Γ Γ' : List Slot} {H H' : List AObj} (hS : SR E w F Γ H)
    (h : Ext n0 w F Γ H w' F' Γ' H') : ∀ b, F b → w'.heap[b]? = w.heap[b]? := fun b hb =>
  h.unch b (hS.low b hb) (fun ⟨id, s, o, h1, h2, h3, h4⟩ => hS.sep id s o b h1 h2 h3 h4 hb)

/-- The values of the frame's slots. -/
def RT (w : World) (F : Nat → Prop) (Γ : List Slot) (t : List AV) (tm : Array Value) : Prop :=
  tm.size = t.length ∧ ∀ j av, t[j]? = some av → RV w F Γ av (tm.getD j undef)

theorem RT.mono {w w' : World} {F F' : Nat → Prop} {Γ Γ' : List Slot} (hF : ∀ b, F b → F' b) (hw : ∀ b, F b → w'.heap[b]? = w.heap[b]?)
    (hΓ : ∀ (id : Nat) s, Γ[id]? = some s → Γ'[id]? = some s) {t : List AV} {tm : Array Value} (h : RT w F Γ t tm) : RT w' F' Γ' t tm :=
  ⟨h.1, fun j av hj => (h.2 j av hj).mono hF hw hΓ⟩

theorem getD_set_self (tm : Array Value) (j : Nat) (v : Value) (h : j < tm.size) : (tm.setIfInBounds j v).getD j undef = v := by
  simp [Array.getD, h]
theorem getD_set_ne (tm : Array Value) (j k : Nat) (v : Value) (h : j ≠ k) : (tm.setIfInBounds j v).getD k undef = tm.getD k undef := by
  simp only [Array.getD_eq_getD_getElem?, Array.getElem?_setIfInBounds]
  simp [h]

theorem RT.set {w : World} {F : Nat → Prop} {Γ : List Slot} {t : List AV} {tm : Array Value} (h : RT w F Γ t tm) (j : Nat) {av : AV} {v : Value}
    (hv : RV w F Γ av v) : RT w F Γ (t.set j av) (tm.setIfInBounds j v) := by
  refine ⟨by simp [h.1], fun k av' hk => ?_⟩
  by_cases hjk : j = k
  · subst hjk
    rw [List.getElem?_set] at hk
    split at hk
    · rename_i hlt
      split at hk
      · obtain rfl := Option.some.inj hk
        rw [getD_set_self _ _ _ (by rw [h.1]; assumption)]
        exact hv
      · simp at hk
    · simp at *
  · rw [List.getElem?_set_ne hjk] at hk
    rw [getD_set_ne _ _ _ _ hjk]
    exact h.2 k av' hk

end Go.Abs
