/-
  Memory by value. A value of the machine is described by a term of plain data ('D': whole numbers, strings, rows, structs ..), or by a reference to an object that the code at hand owns ('AV'); the objects stand in a list ('AObj'). What is described by plain data lies in blocks that nobody writes any more ('F'); what is owned lies in blocks apart from these and from one another.
  Merging in place: the plain laws of a stable sort that works by swaps (lists alone, no program).
  Victims that are just enough: the plain laws (lists alone, no program).
  The operations that change nothing: what each yields, over descriptions ('apure'), and that the machine's operation yields a value so described.
  More operations that change nothing: arithmetic, comparisons, lengths, addresses of elements and fields, slicing.
  Maps: what is found under a key, what a store and a deletion make of the entries; and that the machine's operations do so.
  What is built of parts; the operations that change nothing, together ('apure').
  How a state goes on: objects that are dropped, written, new; and the operations that do so: variables, stores, rows that are made or appended to.
  Rows that are made, written out, appended to.
  Maps that are made, written, emptied.
-/
import Derived.WalkKit
import Derived.DataElems
import Derived.RangeFuncLeaves
import Derived.MapKept
section
set_option autoImplicit false
set_option linter.unusedVariables false
set_option linter.unusedSimpArgs false
namespace Go.Abs
inductive D where
 | int (k : IntKind) (n : Int)
 | bool (b : Bool)
 | str (s : ByteArray)
 | nilp | nilf | nili | nilm | nils
 | slice (sz : Nat) (xs : List (List D))
 | agg (cs : List D)
 | tup (vs : List D)
 | iface (t : TypeId) (v : D)
 | func (f : FuncId) (caps : List D)
 | ptr (a : Addr)
 deriving Inhabited
def D.one : D → Bool
 | .agg _ | .tup _ => false
 | _ => true
inductive RD (w : World) (F : Nat → Prop) : D → Value → Prop
 | int (k : IntKind) (n : Int) : RD w F (.int k n) (.int k n)
 | bool (b : Bool) : RD w F (.bool b) (.bool b)
 | str (s : ByteArray) : RD w F (.str s) (.string s)
 | nilp : RD w F .nilp (.pointer none)
 | nilf : RD w F .nilf .nilFunc
 | nili : RD w F .nili .nilIface
 | nilm : RD w F .nilm (.map none)
 | nils : RD w F .nils (.slice none 0 0)
 | slice (sz : Nat) (xs : List (List D)) (A : Option Addr) (c : Nat) (f : Nat → Nat → Value)
   (hc : xs.length ≤ c) (ha : 0 < xs.length → A.isSome = true) (hl : ∀ x ∈ xs, x.length = sz)
   (hm : ∀ i x j d, xs[i]? = some x → x[j]? = some d → (f i j).oneCell' = true ∧ ∃ a, A = some a ∧ F a.block ∧ w.cell? (a.add (i * sz + j)) = some (f i j))
   (hr : ∀ i x j d, xs[i]? = some x → x[j]? = some d → RD w F d (f i j)) : RD w F (.slice sz xs) (.slice A xs.length c)
 | agg (cs : List D) (vs : Array Value) (hs : vs.size = cs.length) (h1 : ∀ j, j < vs.size → (vs.getD j undef).oneCell' = true)
   (hr : ∀ j d, cs[j]? = some d → RD w F d (vs.getD j undef)) : RD w F (.agg cs) (.agg vs)
 | tup (cs : List D) (vs : Array Value) (hs : vs.size = cs.length)
   (hr : ∀ j d, cs[j]? = some d → RD w F d (vs.getD j undef)) : RD w F (.tup cs) (.tuple vs)
 | iface (t : TypeId) (d : D) (v : Value) (hr : RD w F d v) : RD w F (.iface t d) (.iface t v)
 | func (f : FuncId) (cs : List D) (vs : Array Value) (hs : vs.size = cs.length)
   (hr : ∀ j d, cs[j]? = some d → RD w F d (vs.getD j undef)) : RD w F (.func f cs) (.func (.func f) #[] vs)
 | ptr (a : Addr) : RD w F (.ptr a) (.pointer (some a))
theorem add_block (a : Addr) (n : Nat) : (a.add n).block = a.block := by unfold Addr.add; split <;> rfl
theorem add_plain (b o j : Nat) : (⟨b, o, none⟩ : Addr).add j = ⟨b, o + j, none⟩ := by unfold Addr.add; split <;> simp_all
theorem RD.mono {w w' : World} {F F' : Nat → Prop} (hF : ∀ b, F b → F' b) (hw : ∀ b, F b → w'.heap[b]? = w.heap[b]?) {d : D} {v : Value}
  (h : RD w F d v) : RD w' F' d v := by
 induction h with
 | int k n => exact .int k n
 | bool b => exact .bool b
 | str s => exact .str s
 | nilp => exact .nilp
 | nilf => exact .nilf
 | nili => exact .nili
 | nilm => exact .nilm
 | nils => exact .nils
 | slice sz xs A c f hc ha hl hm hr ih =>
  refine .slice sz xs A c f hc ha hl (fun i x j d h1 h2 => ?_) ih
  obtain ⟨h0, a, e, hb, hcell⟩ := hm i x j d h1 h2
  refine ⟨h0, a, e, hF _ hb, ?_⟩
  rw [← hcell]
  exact World.cell?_of_block (w := w) (w' := w') (by rw [add_block]; exact hw _ hb)
 | agg cs vs hs h1 hr ih => exact .agg cs vs hs h1 ih
 | tup cs vs hs hr ih => exact .tup cs vs hs ih
 | iface t d v hr ih => exact .iface t d v ih
 | func f cs vs hs hr ih => exact .func f cs vs hs ih
 | ptr a => exact .ptr a
theorem RD.one_iff {w : World} {F : Nat → Prop} {d : D} {v : Value} (h : RD w F d v) : v.oneCell' = d.one := by
 cases h <;> rfl
inductive AV where
 | dead
 | d (x : D)
 | pvar (id k : Nat)
 | parr (id i k : Nat)
 | pval (sz : Nat) (xs : List (List D)) (i k : Nat)
 | svalf (sz : Nat) (xs : List (List D))
 | sfull (id : Nat)
 | spart (id lo n : Nat)
 | mapo (id : Nat)
 | func (f : FuncId) (caps : List AV)
 | yield (id : Nat)
 | iface (t : TypeId) (v : AV)
 | agg (cs : List AV)
 | tup (vs : List AV)
 deriving Inhabited
def AV.one : AV → Bool
 | .d x => x.one
 | .agg _ | .tup _ | .dead => false
 | _ => true
structure Slot where
 b : Option Nat
 sz : Nat
 len : Nat
 cap : Nat
 deriving Inhabited
def PartA (s : Slot) (lo n c : Nat) (A : Option Addr) : Prop := (0 < n → ∃ b, s.b = some b ∧ A = some ⟨b, lo * s.sz, none⟩) ∧ (lo = 0 → c = s.cap ∧ ∀ b, s.b = some b → A = some ⟨b, 0, none⟩)
inductive RV (w : World) (F : Nat → Prop) (Γ : List Slot) : AV → Value → Prop
 | dead (v : Value) : RV w F Γ .dead v
 | d {x : D} {v : Value} (h : RD w F x v) : RV w F Γ (.d x) v
 | pvar {id k : Nat} {s : Slot} {b : Nat} (hs : Γ[id]? = some s) (hb : s.b = some b) : RV w F Γ (.pvar id k) (.pointer (some ⟨b, k, none⟩))
 | parr {id i k : Nat} {s : Slot} {b : Nat} (hs : Γ[id]? = some s) (hb : s.b = some b) : RV w F Γ (.parr id i k) (.pointer (some ⟨b, i * s.sz + k, none⟩))
 | pval {sz : Nat} {xs : List (List D)} {i k c : Nat} {a : Addr} (h : RD w F (.slice sz xs) (.slice (some a) xs.length c)) (hi : i < xs.length) :
   RV w F Γ (.pval sz xs i k) (.pointer (some (a.add (i * sz + k))))
 | svalf {sz : Nat} {xs : List (List D)} {A : Option Addr} (h : RD w F (.slice sz xs) (.slice A xs.length xs.length)) :
   RV w F Γ (.svalf sz xs) (.slice A xs.length xs.length)
 | sfull {id : Nat} {s : Slot} {A : Option Addr} (hs : Γ[id]? = some s) (hA : ∀ b, s.b = some b → A = some ⟨b, 0, none⟩) : RV w F Γ (.sfull id) (.slice A s.len s.cap)
 | spart {id lo n c : Nat} {s : Slot} {A : Option Addr} (hs : Γ[id]? = some s) (hn : n ≤ c)
   (ha : PartA s lo n c A) : RV w F Γ (.spart id lo n) (.slice A n c)
 | mapo {id : Nat} {s : Slot} {b : Nat} (hs : Γ[id]? = some s) (hb : s.b = some b) : RV w F Γ (.mapo id) (.map (some b))
 | func (f : FuncId) (cs : List AV) (vs : Array Value) (hs : vs.size = cs.length)
   (hr : ∀ j d, cs[j]? = some d → RV w F Γ d (vs.getD j undef)) : RV w F Γ (.func f cs) (.func (.func f) #[] vs)
 | yield {id : Nat} {s : Slot} {b : Nat} (hs : Γ[id]? = some s) (hb : s.b = some b) : RV w F Γ (.yield id) (.func (.yield b) #[] #[])
 | iface (t : TypeId) (d : AV) (v : Value) (hr : RV w F Γ d v) : RV w F Γ (.iface t d) (.iface t v)
 | agg (cs : List AV) (vs : Array Value) (hs : vs.size = cs.length) (h1 : ∀ j, j < vs.size → (vs.getD j undef).oneCell' = true)
   (hr : ∀ j d, cs[j]? = some d → RV w F Γ d (vs.getD j undef)) : RV w F Γ (.agg cs) (.agg vs)
 | tup (cs : List AV) (vs : Array Value) (hs : vs.size = cs.length)
   (hr : ∀ j d, cs[j]? = some d → RV w F Γ d (vs.getD j undef)) : RV w F Γ (.tup cs) (.tuple vs)
theorem RV.mono {w w' : World} {F F' : Nat → Prop} {Γ Γ' : List Slot} (hF : ∀ b, F b → F' b) (hw : ∀ b, F b → w'.heap[b]? = w.heap[b]?)
  (hΓ : ∀ (id : Nat) s, Γ[id]? = some s → Γ'[id]? = some s) {d : AV} {v : Value} (h : RV w F Γ d v) : RV w' F' Γ' d v := by
 induction h with
 | dead v => exact .dead v
 | d h => exact .d (h.mono hF hw)
 | pvar hs hb => exact .pvar (hΓ _ _ hs) hb
 | parr hs hb => exact .parr (hΓ _ _ hs) hb
 | pval h hi => exact .pval (h.mono hF hw) hi
 | svalf h => exact .svalf (h.mono hF hw)
 | sfull hs hA => exact .sfull (hΓ _ _ hs) hA
 | spart hs hn ha => exact .spart (hΓ _ _ hs) hn ha
 | mapo hs hb => exact .mapo (hΓ _ _ hs) hb
 | func f cs vs hs hr ih => exact .func f cs vs hs ih
 | yield hs hb => exact .yield (hΓ _ _ hs) hb
 | iface t d v hr ih => exact .iface t d v ih
 | agg cs vs hs h1 hr ih => exact .agg cs vs hs h1 ih
 | tup cs vs hs hr ih => exact .tup cs vs hs ih
theorem RV.one {w : World} {F : Nat → Prop} {Γ : List Slot} {d : AV} {v : Value} (h : RV w F Γ d v) (h1 : d.one = true) : v.oneCell' = true := by
 cases h with
 | dead v => simp [AV.one] at h1
 | d h => rw [h.one_iff]; exact h1
 | agg cs vs hs h1' hr => simp [AV.one] at h1
 | tup cs vs hs hr => simp [AV.one] at h1
 | _ => rfl
inductive AObj where
 | none
 | var (cs : List AV)
 | arr (ty : TypeId) (sz : Nat) (xs : List (List D))
 | map (es : List (D × D))
 | mapb (es : List (D × D)) (bs : List Nat) (clk : Nat)
 | iter (m : Nat) (bs : List Nat) (clk : Nat) (idx : List Nat)
 | loop (fn : FuncId) (t : List AV) (ps : List Tmp) (assign body : Code) (st : Option (Option Code))
 | defr
instance : Inhabited AObj := ⟨.none⟩
def LoopAt (st : Option (Option Code)) (l : Loop) : Prop := match st with
 | some none => l.state = .ready ∧ l.pending = none
 | none => l.state = .busy
 | some (some c) => l.state = .done ∧ l.pending = some c
def AObj.live : AObj → Bool
 | .none => false
 | _ => true
def RO (w : World) (F : Nat → Prop) (Γ : List Slot) (s : Slot) : AObj → Prop
 | .none => True
 | .defr => ∃ b, s.b = some b ∧ w.heap[b]? = some (.deferred (some []))
 | .var cs => ∃ b c ty, s.b = some b ∧ w.heap[b]? = some (.cells c ty (0, 0)) ∧ c.size = cs.length ∧
   ∀ j av, cs[j]? = some av → (c.getD j undef).oneCell' = true ∧ RV w F Γ av (c.getD j undef)
 | .map es => ∃ b arr clock, s.b = some b ∧ w.heap[b]? = some (.map arr clock) ∧ arr.size = es.length ∧
   (∀ (i : Nat) k v, es[i]? = some (k, v) → ∃ me : MapEntry, arr[i]? = some me ∧ RD w F k me.key ∧ RD w F v me.val ∧ me.born < clock) ∧
   (∀ (i j : Nat) (mi mj : MapEntry), arr[i]? = some mi → arr[j]? = some mj → mi.born = mj.born → i = j)
 | .mapb es bs clk => ∃ b arr, s.b = some b ∧ w.heap[b]? = some (.map arr clk) ∧ arr.size = es.length ∧ bs.length = es.length ∧
   (∀ (i : Nat) k v, es[i]? = some (k, v) → ∃ me : MapEntry, arr[i]? = some me ∧ RD w F k me.key ∧ RD w F v me.val ∧ bs[i]? = some me.born) ∧
   bs.Nodup ∧ ∀ x ∈ bs, x < clk
 | .iter m bs clk idx => ∃ (b mb : Nat) (sm : Slot) (seen : Array Nat), s.b = some b ∧ Γ[m]? = some sm ∧ sm.b = some mb ∧ w.heap[b]? = some (.mapIter (some mb) clk seen clk) ∧
   seen.toList = idx.map fun i => bs.getD i 0
 | .loop fn t ps assign body st => ∃ (b : Nat) (l : Loop), s.b = some b ∧ w.heap[b]? = some (.loop l) ∧ l.fn = fn ∧ l.params.toList = ps ∧ l.assign = assign ∧ l.body = body ∧ LoopAt st l ∧
   l.tmps.size = t.length ∧ ∀ (j : Nat) av, t[j]? = some av → RV w F Γ av (l.tmps.getD j undef)
 | .arr ty sz xs => s.sz = sz ∧ s.len = xs.length ∧ xs.length ≤ s.cap ∧ (∀ x ∈ xs, x.length = sz) ∧
   ((s.b = none ∧ s.cap = 0) ∨ ∃ b c, s.b = some b ∧ w.heap[b]? = some (.cells c ty (0, 0)) ∧ s.cap * sz = c.size ∧
    ∀ i x j d, xs[i]? = some x → x[j]? = some d → (c.getD (i * sz + j) undef).oneCell' = true ∧ RD w F d (c.getD (i * sz + j) undef))
def LiveB (Γ : List Slot) (H : List AObj) (b : Nat) : Prop :=
 ∃ (id : Nat) (s : Slot) (o : AObj), Γ[id]? = some s ∧ H[id]? = some o ∧ o.live = true ∧ s.b = some b
inductive Kd where
 | int (k : IntKind) | bool | string | slice (e : TypeId) | array (n : Nat) (e : TypeId) | struct (fl : List (Nat × TypeId)) | map (k e : TypeId)
 | ptr (e : TypeId) | iface | func | tuple
def Kd.fits : Kd → TypeDesc → Prop
 | .int k, d => d = .int k
 | .bool, d => d = .bool
 | .string, d => d = .string
 | .slice e, d => d = .slice e
 | .array n e, d => d = .array n e
 | .struct fl, d => ∃ fs, d = .struct fs ∧ fs.toList.map (fun f => (f.offset, f.type)) = fl
 | .map k e, d => d = .map k e
 | .ptr e, d => d = .pointer e
 | .iface, d => ∃ ms, d = .interface ms
 | .func, d => ∃ a b c, d = .func a b c
 | .tuple, d => ∃ ts, d = .tuple ts
structure TI where
 k : Kd
 size : Nat
 bytes : Nat
 zero : List D
def TI.zv (i : TI) : D := match i.k with
 | .struct _ => .agg i.zero
 | .array _ _ => .agg i.zero
 | _ => i.zero.getD 0 .nilp
/-! ### Keys of maps -/
def skeq : D → D → Bool
 | .int k a, .int k' b => k == k' && a == b
 | .bool a, .bool b => a == b
 | .str a, .str b => a == b
 | _, _ => false
def skeqL : List D → List D → Bool
 | [], [] => true
 | a :: r, b :: s => skeq a b && skeqL r s
 | _, _ => false
def dkeq : D → D → Bool
 | .agg r, .agg s => skeqL r s
 | a, b => skeq a b
structure KeyLaw (P : Program) (t : TypeId) (g : D → Bool) : Prop where
 chk : ∀ w F k v e, g k = true → RD w F k v → (Instr.checkKey e 10000 t v).run P w = .ok () w
 find : ∀ w F k v (ks : List D) (es : List MapEntry), g k = true → RD w F k v → ks.length = es.length →
  (∀ (i : Nat) d, ks[i]? = some d → g d = true ∧ ∃ e, es[i]? = some e ∧ RD w F d e.key) →
  (Instr.findKey t v es).run P w = .ok ((ks.findIdx? (dkeq k)).map fun i => (i, (es.getD i default).val)) w
 stay : ∀ w F k d v u, g k = true → g d = true → dkeq k d = true → RD w F k v → RD w F d u → (Instr.keyThatStays u v).run P w = .ok v w
structure CmpLaw (P : Program) (t : TypeId) (g : D → Bool) : Prop where
 eq : ∀ w F a b u v, g a = true → g b = true → RD w F a u → RD w F b v → (Op.equal t u v).run P w = .ok (dkeq a b) w
 grd : ∀ op x y w F a b u v, g a = true → g b = true → RD w F a u → RD w F b v → (eqGuard op t x y u v).run P w = .ok () w
 bin : ∀ op w F a b u v, g a = true → g b = true → RD w F a u → RD w F b v → op = .eql ∨ op = .neq → binOp op t u v = (if op = .eql then do pure (.bool (← Op.equal t u v)) else do pure (.bool (!(← Op.equal t u v))))
structure Env where
 P : Program
 ty : TypeId → Option TI
 gl : Nat → Option (Nat × List (List D))
 ext : FuncId → Option (List AV → Option AV)
 key : TypeId → Option (D → Bool) := fun _ => none
 cmp : TypeId → Option (D → Bool) := fun _ => none
def RVL (w : World) (F : Nat → Prop) (Γ : List Slot) (as : List AV) (vs : Array Value) : Prop :=
 vs.size = as.length ∧ ∀ j av, as[j]? = some av → RV w F Γ av (vs.getD j undef)
structure EnvOk (E : Env) : Prop where
 desc : ∀ t i, E.ty t = some i → ∃ d, E.P.underlying t = some d ∧ i.k.fits d
 info : ∀ t i, E.ty t = some i → ∃ inf z, E.P.info? t = some inf ∧ inf.size = i.size ∧ inf.bytes = i.bytes ∧ inf.zero = some z ∧
  z.cells.size = i.zero.length ∧ i.zero.length = i.size ∧ (∀ j d, i.zero[j]? = some d → (z.cells.getD j undef).oneCell' = true ∧ ∀ w F, RD w F d (z.cells.getD j undef)) ∧ ∀ w F, RD w F i.zv z
 key : ∀ t g, E.key t = some g → KeyLaw E.P t g
 cmp : ∀ t g, E.cmp t = some g → CmpLaw E.P t g
 mixed : E.P.follows .mixedOrders = true
 ext : ∀ g f, E.ext g = some f → ∀ as v, f as = some v → ∀ w F Γ vs, RVL w F Γ as vs → ∃ u, (callFunc g vs).run E.P w = .ok (.value u) w ∧ RV w F Γ v u
structure SR (E : Env) (w : World) (F : Nat → Prop) (Γ : List Slot) (H : List AObj) : Prop where
 len : Γ.length = H.length
 obj : ∀ (id : Nat) s o, Γ[id]? = some s → H[id]? = some o → RO w F Γ s o
 sep : ∀ (id : Nat) s o b, Γ[id]? = some s → H[id]? = some o → o.live = true → s.b = some b → ¬ F b
 inj : ∀ (i j : Nat) si sj oi oj b, Γ[i]? = some si → Γ[j]? = some sj → H[i]? = some oi → H[j]? = some oj → oi.live = true → oj.live = true → si.b = some b → sj.b = some b → i = j
 low : ∀ b, F b → b < w.heap.size
 glob : ∀ g sz xs, E.gl g = some (sz, xs) → RV w F [] (.pval sz xs 0 0) (.pointer (some ⟨g, 0, none⟩))
structure Ext (n0 : Nat) (w : World) (F : Nat → Prop) (Γ : List Slot) (H : List AObj) (w' : World) (F' : Nat → Prop) (Γ' : List Slot) (H' : List AObj) : Prop where
 os : w'.os = w.os
 tape : w'.tape = w.tape
 output : w'.output = w.output
 size : w.heap.size ≤ w'.heap.size
 unch : ∀ b, b < w.heap.size → ¬ LiveB Γ H b → w'.heap[b]? = w.heap[b]?
 sub : ∀ b, F b → F' b
 new : ∀ b, F' b → b < w.heap.size → F b ∨ LiveB Γ H b
 live : ∀ b, LiveB Γ' H' b → b < w.heap.size → LiveB Γ H b
 pre : ∀ id, id < n0 → Γ'[id]? = Γ[id]?
 nlen : n0 ≤ Γ'.length
theorem Ext.refl {n0 : Nat} {w : World} {F : Nat → Prop} {Γ : List Slot} {H : List AObj} (h : n0 ≤ Γ.length) : Ext n0 w F Γ H w F Γ H :=
 ⟨rfl, rfl, rfl, Nat.le_refl _, fun _ _ _ => rfl, fun _ h => h, fun _ h _ => .inl h, fun _ h _ => h, fun _ _ => rfl, h⟩
theorem Ext.trans {n0 n1 : Nat} {w w1 w2 : World} {F F1 F2 : Nat → Prop} {Γ Γ1 Γ2 : List Slot} {H H1 H2 : List AObj} (hn : n0 ≤ n1)
  (h : Ext n0 w F Γ H w1 F1 Γ1 H1) (k : Ext n1 w1 F1 Γ1 H1 w2 F2 Γ2 H2) : Ext n0 w F Γ H w2 F2 Γ2 H2 where
 os := k.os.trans h.os
 tape := k.tape.trans h.tape
 output := k.output.trans h.output
 size := Nat.le_trans h.size k.size
 unch b hb hl := (k.unch b (Nat.lt_of_lt_of_le hb h.size) (fun hl' => hl (h.live b hl' hb))).trans (h.unch b hb hl)
 sub b hb := k.sub b (h.sub b hb)
 new b hb hlt := by
  rcases k.new b hb (Nat.lt_of_lt_of_le hlt h.size) with h1 | h1
  ·exact h.new b h1 hlt
  ·exact .inr (h.live b h1 hlt)
 live b hb hlt := h.live b (k.live b hb (Nat.lt_of_lt_of_le hlt h.size)) hlt
 pre id hid := (k.pre id (Nat.lt_of_lt_of_le hid hn)).trans (h.pre id hid)
 nlen := Nat.le_trans hn k.nlen
theorem Ext.stay {E : Env} {n0 : Nat} {w w' : World} {F F' : Nat → Prop} {Γ Γ' : List Slot} {H H' : List AObj} (hS : SR E w F Γ H)
  (h : Ext n0 w F Γ H w' F' Γ' H') : ∀ b, F b → w'.heap[b]? = w.heap[b]? := fun b hb =>
 h.unch b (hS.low b hb) (fun ⟨id, s, o, h1, h2, h3, h4⟩ => hS.sep id s o b h1 h2 h3 h4 hb)
def RT (w : World) (F : Nat → Prop) (Γ : List Slot) (t : List AV) (tm : Array Value) : Prop :=
 tm.size = t.length ∧ ∀ j av, t[j]? = some av → RV w F Γ av (tm.getD j undef)
theorem RT.mono {w w' : World} {F F' : Nat → Prop} {Γ Γ' : List Slot} (hF : ∀ b, F b → F' b) (hw : ∀ b, F b → w'.heap[b]? = w.heap[b]?)
  (hΓ : ∀ (id : Nat) s, Γ[id]? = some s → Γ'[id]? = some s) {t : List AV} {tm : Array Value} (h : RT w F Γ t tm) : RT w' F' Γ' t tm :=
 ⟨h.1, fun j av hj => (h.2 j av hj).mono hF hw hΓ⟩
theorem getD_set_self (tm : Array Value) (j : Nat) (v : Value) (h : j < tm.size) : (tm.setIfInBounds j v).getD j undef = v := by
 simp [Array.getD, h]
theorem getD_set_ne (tm : Array Value) (j k : Nat) (v : Value) (h : j ≠ k) : (tm.setIfInBounds j v).getD k undef = tm.getD k undef := by
 simp only [Array.getD_eq_getD_getElem?, Array.getElem?_setIfInBounds]
 simp [h]
theorem RT.set {w : World} {F : Nat → Prop} {Γ : List Slot} {t : List AV} {tm : Array Value} (h : RT w F Γ t tm) (j : Nat) {av : AV} {v : Value}
  (hv : RV w F Γ av v) : RT w F Γ (t.set j av) (tm.setIfInBounds j v) := by
 refine ⟨by simp [h.1], fun k av' hk => ?_⟩
 by_cases hjk : j = k
 ·subst hjk
  rw [List.getElem?_set] at hk
  split at hk
  ·rename_i hlt
   split at hk
   ·obtain rfl := Option.some.inj hk
    rw [getD_set_self _ _ _ (by rw [h.1]; assumption)]
    exact hv
   ·simp at hk
  ·simp at *
 ·rw [List.getElem?_set_ne hjk] at hk
  rw [getD_set_ne _ _ _ _ hjk]
  exact h.2 k av' hk
end Go.Abs
end
section
set_option autoImplicit false
set_option linter.unusedVariables false
namespace Go.Abs
structure Ord {α : Type} (lt : α → α → Bool) : Prop where
 asymm : ∀ x y, lt x y = true → lt y x = false
 trans : ∀ x y z, lt y x = false → lt z y = false → lt z x = false
def Srt {α : Type} (lt : α → α → Bool) (l : List α) : Prop := l.Pairwise fun x y => lt y x = false
section
variable {α : Type} {lt : α → α → Bool}
theorem Ord.irr (h : Ord lt) (x : α) : lt x x = false := by
 cases hx : lt x x with
 | false => rfl
 | true => rw [h.asymm x x hx] at hx; cases hx
theorem Ord.ltle (h : Ord lt) {x y z : α} (h1 : lt x y = true) (h2 : lt z y = false) : lt x z = true := by
 cases hx : lt x z with
 | true => rfl
 | false => rw [h.trans y z x h2 hx] at h1; cases h1
theorem Ord.lelt (h : Ord lt) {x y z : α} (h1 : lt y x = false) (h2 : lt y z = true) : lt x z = true := by
 cases hx : lt x z with
 | true => rfl
 | false => rw [h.trans z x y hx h1] at h2; cases h2
theorem srt_append {l1 l2 : List α} : Srt lt (l1 ++ l2) ↔ Srt lt l1 ∧ Srt lt l2 ∧ ∀ x ∈ l1, ∀ y ∈ l2, lt y x = false := by
 unfold Srt; exact List.pairwise_append
theorem srt_nil : Srt lt ([] : List α) := List.Pairwise.nil
theorem srt_one (x : α) : Srt lt [x] := by unfold Srt; simp
theorem srt_cons {x : α} {l : List α} : Srt lt (x :: l) ↔ (∀ y ∈ l, lt y x = false) ∧ Srt lt l := by unfold Srt; exact List.pairwise_cons
def swp (l : List α) (z : α) (i j : Nat) : List α := (l.set j (l.getD i z)).set i (l.getD j z)
def swq (l : List α) (z : α) (i j : Nat) : List α := (l.set i (l.getD j z)).set j (l.getD i z)
theorem getD_at (A B : List α) (x z : α) {i : Nat} (h : i = A.length) : (A ++ x :: B).getD i z = x := by
 subst h; simp [List.getD_eq_getElem?_getD]
theorem set_at (A B : List α) (x y : α) {i : Nat} (h : i = A.length) : (A ++ x :: B).set i y = A ++ y :: B := by
 subst h; simp [List.set_append_right]
theorem swp_next (A B : List α) (x y z : α) {i j : Nat} (hi : i = A.length) (hj : j = A.length + 1) : swp (A ++ x :: y :: B) z i j = A ++ y :: x :: B := by
 unfold swp
 rw [getD_at A (y :: B) x z hi, show A ++ x :: y :: B = (A ++ [x]) ++ y :: B by simp, getD_at (A ++ [x]) B y z (by simp; omega), set_at (A ++ [x]) B y x (by simp; omega),
  show (A ++ [x]) ++ x :: B = A ++ x :: x :: B by simp, set_at A (x :: B) x y hi]
theorem swq_eq (l : List α) (z : α) (i j : Nat) (h : i ≠ j) : swq l z i j = swp l z i j := by
 unfold swq swp; rw [List.set_comm _ _ h]
theorem swp_far (A B C : List α) (x y z : α) {i j : Nat} (hi : i = A.length) (hj : j = A.length + 1 + B.length) : swp (A ++ x :: B ++ y :: C) z i j = A ++ y :: B ++ x :: C := by
 unfold swp
 rw [show A ++ x :: B ++ y :: C = A ++ x :: (B ++ y :: C) by simp, getD_at A _ x z hi, show A ++ x :: (B ++ y :: C) = (A ++ x :: B) ++ y :: C by simp, getD_at (A ++ x :: B) C y z (by simp; omega), set_at (A ++ x :: B) C y x (by simp; omega),
  show (A ++ x :: B) ++ x :: C = A ++ x :: (B ++ x :: C) by simp, set_at A _ x y hi]
 simp
theorem cut_ok (h : Ord lt) {A1 A2 B1 B2 : List α} (hA : Srt lt (A1 ++ A2)) (hB : Srt lt (B1 ++ B2))
  (h1 : ∀ x y, A1.getLast? = some x → B2.head? = some y → lt y x = false) (h2 : ∀ x y, B1.getLast? = some x → A2.head? = some y → lt x y = true) {C1 C2 : List α} (c1 : C1.Perm (A1 ++ B1)) (c2 : C2.Perm (A2 ++ B2)) (s1 : Srt lt C1) (s2 : Srt lt C2) : Srt lt (C1 ++ C2) := by
 obtain ⟨a1, a2, a3⟩ := srt_append.1 hA
 obtain ⟨b1, b2, b3⟩ := srt_append.1 hB
 have last : ∀ {l : List α} {x : α}, Srt lt l → x ∈ l → ∃ y, l.getLast? = some y ∧ lt y x = false := fun {l x} hs hx => by
  have hne : l ≠ [] := fun e => by rw [e] at hx; cases hx
  refine ⟨l.getLast hne, List.getLast?_eq_some_getLast hne, ?_⟩
  have hsp := List.dropLast_concat_getLast hne
  rw [← hsp] at hs hx
  rcases List.mem_append.1 hx with hx | hx
  ·exact (srt_append.1 hs).2.2 x hx _ (by simp)
  ·rw [List.mem_singleton.1 hx]; exact h.irr _
 have head : ∀ {l : List α} {x : α}, Srt lt l → x ∈ l → ∃ y, l.head? = some y ∧ lt x y = false := fun {l x} hs hx => by
  cases l with
  | nil => cases hx
  | cons y l =>
   refine ⟨y, rfl, ?_⟩
   rcases List.mem_cons.1 hx with rfl | hx
   ·exact h.irr _
   ·exact (srt_cons.1 hs).1 x hx
 refine srt_append.2 ⟨s1, s2, fun x hx y hy => ?_⟩
 rcases List.mem_append.1 (c1.mem_iff.1 hx) with hx | hx <;> rcases List.mem_append.1 (c2.mem_iff.1 hy) with hy | hy
 ·exact a3 x hx y hy
 ·obtain ⟨u, hu, hxu⟩ := last a1 hx
  obtain ⟨v, hv, hyv⟩ := head b2 hy
  exact h.trans x u y hxu (h.trans u v y (h1 u v hu hv) hyv)
 ·obtain ⟨u, hu, hxu⟩ := last b1 hx
  obtain ⟨v, hv, hyv⟩ := head a2 hy
  exact h.asymm _ _ (h.ltle (h.lelt hxu (h2 u v hu hv)) hyv)
 ·exact b3 x hx y hy
def SrtIn (lt : α → α → Bool) (l : List α) (p q : Nat) : Prop := Srt lt ((l.take q).drop p)
def PartP (l l' : List α) (a b : Nat) : Prop := ∃ L M M' R, l = L ++ M ++ R ∧ l' = L ++ M' ++ R ∧ M'.Perm M ∧ L.length = a ∧ (L ++ M).length = b
theorem PartP.perm {l l' : List α} {a b : Nat} (h : PartP l l' a b) : l'.Perm l := by
 obtain ⟨L, M, M', R, rfl, rfl, hp, _, _⟩ := h
 exact (hp.append_left L).append_right R
theorem PartP.len {l l' : List α} {a b : Nat} (h : PartP l l' a b) : l'.length = l.length := h.perm.length_eq
theorem take_drop_parts (L M R : List α) {p q : Nat} (hp : p = L.length) (hq : q = (L ++ M).length) : ((L ++ M ++ R).take q).drop p = M := by
 subst hp hq
 rw [List.take_left', List.drop_left']
 ·rfl
 ·rfl
theorem PartP.same {l l' : List α} {a b p q : Nat} (h : PartP l l' a b) (hpq : q ≤ a ∨ b ≤ p) (hs : SrtIn lt l p q) : SrtIn lt l' p q := by
 obtain ⟨L, M, M', R, rfl, rfl, hp, ha, hb⟩ := h
 have hl : (L ++ M').length = b := by rw [← hb]; simp [hp.length_eq]
 unfold SrtIn at *
 rcases hpq with hq | hq
 ·rw [List.append_assoc, List.take_append_of_le_length (by omega)] at hs ⊢
  exact hs
 ·have e : ∀ X : List α, X.length = b → ((X ++ R).take q).drop p = (R.take (q - b)).drop (p - b) := fun X hX => by
   rw [List.take_append, List.drop_append, List.drop_eq_nil_of_le (by simp; omega), List.nil_append, hX, List.length_take, hX]
   by_cases hqb : q ≤ b
   ·rw [show q - b = 0 by omega]; simp
   ·rw [Nat.min_eq_right (by omega)]
  rw [e _ hb] at hs
  rw [e _ hl]
  exact hs
theorem srt_last {l : List α} {y : α} (h : Ord lt) (hs : Srt lt l) (hl : ∀ x, l.getLast? = some x → lt y x = false) : Srt lt (l ++ [y]) := by
 rcases List.eq_nil_or_concat l with rfl | ⟨l', x, rfl⟩
 ·simp [srt_one]
 ·refine srt_append.2 ⟨hs, srt_one y, fun u hu v hv => ?_⟩
  obtain rfl := List.mem_singleton.1 hv
  have hx : lt v x = false := hl x (by simp)
  rw [List.concat_eq_append] at hs hu
  rcases List.mem_append.1 hu with hu | hu
  ·exact h.trans u x v ((srt_append.1 hs).2.2 u hu x (by simp)) hx
  ·rw [List.mem_singleton.1 hu]; exact hx
theorem srt_head {l : List α} {x : α} (h : Ord lt) (hs : Srt lt l) (hl : ∀ y, l.head? = some y → lt y x = false) : Srt lt (x :: l) := by
 cases l with
 | nil => exact srt_one x
 | cons y l =>
  refine srt_cons.2 ⟨fun u hu => ?_, hs⟩
  have hy := hl y rfl
  rcases List.mem_cons.1 hu with rfl | hu
  ·exact hy
  ·exact h.trans x y u hy ((srt_cons.1 hs).1 u hu)
theorem ins_end (h : Ord lt) {S1 S2 : List α} {x : α} (hs : Srt lt (S1 ++ S2)) (h2 : ∀ y ∈ S2, lt x y = true) (h1 : ∀ y, S1.getLast? = some y → lt x y = false) : Srt lt (S1 ++ x :: S2) := by
 obtain ⟨s1, s2, s3⟩ := srt_append.1 hs
 have hx := srt_last h s1 h1
 rw [show S1 ++ x :: S2 = (S1 ++ [x]) ++ S2 by simp]
 refine srt_append.2 ⟨hx, s2, fun u hu v hv => ?_⟩
 rcases List.mem_append.1 hu with hu | hu
 ·exact s3 u hu v hv
 ·rw [List.mem_singleton.1 hu]; exact h.asymm _ _ (h2 v hv)
theorem one_right (h : Ord lt) {B1 B2 : List α} {x : α} (hB : Srt lt (B1 ++ B2)) (h1 : ∀ y, B1.getLast? = some y → lt y x = true) (h2 : ∀ y, B2.head? = some y → lt y x = false) : Srt lt (B1 ++ x :: B2) :=
 cut_ok h (A1 := []) (A2 := [x]) (by simpa using srt_one x) hB (fun _ _ h => by cases h) (fun u v hu hv => by
  simp at hv; subst hv; exact h1 u hu) (by simp) (by simp) (srt_append.1 hB).1 (srt_head h (srt_append.1 hB).2.1 h2)
theorem one_left (h : Ord lt) {A1 A2 : List α} {y : α} (hA : Srt lt (A1 ++ A2)) (h1 : ∀ x, A1.getLast? = some x → lt y x = false) (h2 : ∀ x, A2.head? = some x → lt y x = true) : Srt lt (A1 ++ y :: A2) := by
 have := cut_ok h (B1 := [y]) (B2 := []) (C1 := A1 ++ [y]) (C2 := A2) hA (by simpa using srt_one y) (fun _ _ _ h => by cases h) (fun u v hu hv => by
  simp at hu; subst hu; exact h2 v hv) (List.Perm.refl _) (by simp) (srt_last h (srt_append.1 hA).1 h1) (srt_append.1 hA).2.1
 simpa using this
theorem SrtIn.over {l : List α} {p q r : Nat} (h : SrtIn lt l p q) (hq : l.length ≤ q) (hr : l.length ≤ r) : SrtIn lt l p r := by
 unfold SrtIn at *
 rw [List.take_of_length_le hq] at h
 rwa [List.take_of_length_le hr]
theorem SrtIn.beyond {l : List α} {p q : Nat} (hp : l.length ≤ p) : SrtIn lt l p q := by
 unfold SrtIn
 rw [List.drop_eq_nil_of_le (by simp; omega)]
 exact srt_nil
theorem SrtIn.none {l : List α} {p : Nat} : SrtIn lt l p p := by
 unfold SrtIn
 rw [List.drop_eq_nil_of_le (by simp; omega)]
 exact srt_nil
theorem SrtIn.all {l : List α} {n : Nat} (h : SrtIn lt l 0 n) (hn : l.length ≤ n) : Srt lt l := by
 unfold SrtIn at h
 rwa [List.take_of_length_le hn, List.drop_zero] at h
theorem parts_of {l : List α} {a b : Nat} (h1 : a ≤ b) (h2 : b ≤ l.length) : ∃ L M R, l = L ++ M ++ R ∧ L.length = a ∧ (L ++ M).length = b ∧ M = (l.take b).drop a := by
 refine ⟨l.take a, (l.take b).drop a, l.drop b, ?_, by simp; omega, ?_, rfl⟩
 ·rw [show l.take a = (l.take b).take a by rw [List.take_take, Nat.min_eq_left h1], List.take_append_drop, List.take_append_drop]
 ·rw [show l.take a = (l.take b).take a by rw [List.take_take, Nat.min_eq_left h1], List.take_append_drop]; simp; omega
def Blk (lt : α → α → Bool) (l : List α) (s : Nat) : Prop := ∀ j, SrtIn lt l (j * s) ((j + 1) * s)
theorem Blk.done {l : List α} {s : Nat} (h : Blk lt l s) (hs : l.length ≤ s) : Srt lt l := by
 have := h 0
 simp only [Nat.zero_mul, Nat.zero_add, Nat.one_mul] at this
 exact this.all hs
theorem srt_unique' {l l' : List α} (h : Ord lt) (hp : l'.Perm l) (hs : Srt lt l) (hs' : Srt lt l') (ht : ∀ x ∈ l, ∀ y ∈ l, lt x y = false → lt y x = false → x = y) : l' = l :=
 List.Perm.eq_of_pairwise (le := fun x y => lt y x = false) (fun x y hx hy h1 h2 => ht x (hp.mem_iff.1 hx) y hy h2 h1) hs' hs hp
end
end Go.Abs
end
section
set_option autoImplicit false
set_option linter.unusedVariables false
namespace Go.Abs
section
variable {α : Type} {fit : List α → Bool}
def vic (fit : List α → Bool) : List α → List α → List α
 | acc, [] => acc
 | acc, q :: r => if fit (acc ++ r) then vic fit acc r else vic fit (acc ++ [q]) r
def Mono (fit : List α → Bool) : Prop := ∀ a b : List α, (∀ x ∈ a, x ∈ b) → fit a = true → fit b = true
theorem vic_sub : ∀ (l acc : List α), ∃ V, vic fit acc l = acc ++ V ∧ V.Sublist l
 | [], acc => ⟨[], by simp [vic], List.Sublist.refl _⟩
 | q :: r, acc => by
  unfold vic
  cases fit (acc ++ r) with
  | true =>
   obtain ⟨V, h1, h2⟩ := vic_sub r acc
   exact ⟨V, by simpa using h1, h2.cons q⟩
  | false =>
   obtain ⟨V, h1, h2⟩ := vic_sub r (acc ++ [q])
   exact ⟨q :: V, by simpa using h1, h2.cons_cons q⟩
theorem vic_min (hm : Mono fit) : ∀ (l acc V : List α), vic fit acc l = acc ++ V → ∀ i, i < V.length → fit (acc ++ V.eraseIdx i) = false
 | [], acc, V, h, i, hi => by
  have : V = [] := by simpa [vic] using h
  subst this; simp at hi
 | q :: r, acc, V, h, i, hi => by
  unfold vic at h
  cases hf : fit (acc ++ r) with
  | true =>
   rw [hf, if_pos rfl] at h
   exact vic_min hm r acc V h i hi
  | false =>
   rw [hf, if_neg (by simp)] at h
   obtain ⟨V', h1, h2⟩ := vic_sub (fit := fit) r (acc ++ [q])
   have hV : V = q :: V' := by
    rw [h1, List.append_assoc] at h
    exact (List.append_cancel_left h).symm
   subst hV
   cases i with
   | zero =>
    rw [List.eraseIdx_cons_zero]
    cases hx : fit (acc ++ V') with
    | false => rfl
    | true =>
     rw [hm _ (acc ++ r) (fun x hx => by
      rcases List.mem_append.1 hx with h | h
      ·exact List.mem_append_left _ h
      ·exact List.mem_append_right _ (h2.subset h)) hx] at hf
     cases hf
   | succ i =>
    rw [List.eraseIdx_cons_succ]
    have := vic_min hm r (acc ++ [q]) V' h1 i (by simpa using hi)
    simpa using this
theorem vic_turn : ∀ (l1 acc : List α) (l2 : List α), ∃ A, A.Sublist l1 ∧ vic fit acc (l1 ++ l2) = vic fit (acc ++ A) l2
 | [], acc, l2 => ⟨[], List.Sublist.refl _, by simp⟩
 | q :: r, acc, l2 => by
  rw [List.cons_append]
  unfold vic
  cases fit (acc ++ (r ++ l2)) with
  | true =>
   obtain ⟨A, h1, h2⟩ := vic_turn r acc l2
   refine ⟨A, h1.cons q, ?_⟩
   rw [if_pos rfl, h2]
   cases l2 <;> rfl
  | false =>
   obtain ⟨A, h1, h2⟩ := vic_turn r (acc ++ [q]) l2
   refine ⟨q :: A, h1.cons_cons q, ?_⟩
   rw [if_neg (by simp), h2, List.append_assoc]
   cases l2 <;> rfl
theorem filter_sub [DecidableEq α] : ∀ {l A : List α}, l.Nodup → A.Sublist l → l.filter (fun x => decide (x ∈ A)) = A
 | [], A, _, h => by rw [List.sublist_nil.1 h]; rfl
 | x :: l, A, hn, h => by
  obtain ⟨h1, h2⟩ := List.nodup_cons.1 hn
  rcases List.sublist_cons_iff.1 h with h | ⟨B, rfl, hB⟩
  ·have hxA : x ∉ A := fun hx => h1 (h.subset hx)
   rw [List.filter_cons, if_neg (by simpa using hxA)]
   exact filter_sub h2 h
  ·rw [List.filter_cons, if_pos (by simp)]
   have : l.filter (fun y => decide (y ∈ x :: B)) = l.filter (fun y => decide (y ∈ B)) := List.filter_congr fun y hy => by
    have : y ≠ x := fun e => h1 (e ▸ hy)
    simp [this]
   rw [this, filter_sub h2 hB]
theorem vic_rep [DecidableEq α] {l1 l2 : List α} {q : α} (hn : (l1 ++ q :: l2).Nodup) :
  (q ∈ vic fit [] (l1 ++ q :: l2)) ↔ fit (l1.filter (fun x => decide (x ∈ vic fit [] (l1 ++ q :: l2))) ++ l2) = false := by
 obtain ⟨A, h1, h2⟩ := vic_turn (fit := fit) l1 [] (q :: l2)
 obtain ⟨n1, n2, n3⟩ := List.nodup_append.1 hn
 obtain ⟨n4, n5⟩ := List.nodup_cons.1 n2
 rw [List.nil_append] at h2
 have hqA : q ∉ A := fun h => n3 q (h1.subset h) q (by simp) rfl
 have hf : l1.filter (fun x => decide (x ∈ vic fit [] (l1 ++ q :: l2))) = A := by
  obtain ⟨B, e, hB⟩ := vic_sub (fit := fit) (q :: l2) A
  have : l1.filter (fun x => decide (x ∈ vic fit [] (l1 ++ q :: l2))) = l1.filter (fun x => decide (x ∈ A)) := List.filter_congr fun x hx => by
   rw [h2, e]
   have : x ∉ B := fun h => n3 x hx x (hB.subset h) rfl
   simp [this]
  rw [this]
  exact filter_sub n1 h1
 rw [hf, h2]
 unfold vic
 cases hx : fit (A ++ l2) with
 | true =>
  obtain ⟨B, e, hB⟩ := vic_sub (fit := fit) l2 A
  rw [if_pos rfl, e]
  simp only [List.mem_append, Bool.true_eq_false, iff_false]
  rintro (h | h)
  ·exact hqA h
  ·exact n4 (hB.subset h)
 | false =>
  obtain ⟨B, e, hB⟩ := vic_sub (fit := fit) l2 (A ++ [q])
  rw [if_neg (by simp), e]
  simp
end
end Go.Abs
end
section
set_option autoImplicit false
set_option linter.unusedVariables false
set_option linter.unusedSimpArgs false
namespace Go.Abs
def Br (b : Bool) (x y : Prop) : Prop := (b = true → x) ∧ (b = false → y)
@[congr] theorem Br_congr {b b' : Bool} {x y : Prop} (h : b = b') : Br b x y = Br b' x y := by rw [h]
theorem Br_true (x y : Prop) : Br true x y = x := by simp [Br]
theorem Br_false (x y : Prop) : Br false x y = y := by simp [Br]
theorem Br.mk {b : Bool} {x y : Prop} (h1 : b = true → x) (h2 : b = false → y) : Br b x y := ⟨h1, h2⟩
def cst : Value → AV
 | .int k n => .d (.int k n)
 | .bool b => .d (.bool b)
 | .string s => .d (.str s)
 | .pointer none => .d .nilp
 | .nilFunc => .d .nilf
 | .nilIface => .d .nili
 | .map none => .d .nilm
 | .slice none 0 0 => .d .nils
 | _ => .dead
def ev (E : Env) (t : List AV) : Operand → AV
 | .tmp i => t.getD i .dead
 | .const v => cst v
 | .global g => match E.gl g with
  | some (sz, xs) => .pval sz xs 0 0
  | none => .dead
 | .func f => .d (.func f [])
theorem cst_ok (w : World) (F : Nat → Prop) (Γ : List Slot) (v : Value) : RV w F Γ (cst v) v := by
 unfold cst
 split
 ·exact .d (.int _ _)
 ·exact .d (.bool _)
 ·exact .d (.str _)
 ·exact .d .nilp
 ·exact .d .nilf
 ·exact .d .nili
 ·exact .d .nilm
 ·exact .d .nils
 ·exact .dead _
theorem RV.weakΓ {w : World} {F : Nat → Prop} {Γ : List Slot} {d : AV} {v : Value} (h : RV w F [] d v) : RV w F Γ d v :=
 h.mono (fun _ h => h) (fun _ _ => rfl) (fun id s hs => by simp at hs)
theorem ev_ok {E : Env} {w : World} {F : Nat → Prop} {Γ : List Slot} {H : List AObj} (hS : SR E w F Γ H) {t : List AV} {a : Act} (hT : RT w F Γ t a.tmps) :
  ∀ x, RV w F Γ (ev E t x) (a.eval x) := by
 intro x
 cases x with
 | tmp i =>
  simp only [ev, Act.eval]
  rw [List.getD_eq_getElem?_getD]
  cases h : t[i]? with
  | none => exact .dead _
  | some av => exact hT.2 i av h
 | const v => exact cst_ok w F Γ v
 | global g =>
  simp only [ev, Act.eval]
  cases h : E.gl g with
  | none => exact .dead _
  | some p => obtain ⟨sz, xs⟩ := p; exact (hS.glob g sz xs h).weakΓ
 | func f => exact .d (.func f [] #[] rfl (fun j d h => by simp at h))
def allD : List AV → Option (List D)
 | [] => some []
 | .d x :: r => match allD r with
  | some l => some (x :: l)
  | none => none
 | _ :: _ => none
theorem allD_some : ∀ {cs : List AV} {l : List D}, allD cs = some l → cs = l.map .d
 | [], l, h => by simp [allD] at h; subst h; rfl
 | a :: r, l, h => by
  cases a <;> simp only [allD, reduceCtorEq] at h
  rename_i x
  cases hr : allD r with
  | none => simp [hr] at h
  | some l' => simp [hr] at h; subst h; simp [allD_some hr]
def mkAgg (cs : List AV) : AV := match allD cs with
 | some l => .d (.agg l)
 | none => .agg cs
def mkTup (cs : List AV) : AV := match allD cs with
 | some l => .d (.tup l)
 | none => .tup cs
def mkFunc (f : FuncId) (cs : List AV) : AV := match allD cs with
 | some l => .d (.func f l)
 | none => .func f cs
def mkIface (t : TypeId) : AV → AV
 | .d x => .d (.iface t x)
 | v => .iface t v
theorem RV.of_d {w : World} {F : Nat → Prop} {Γ : List Slot} {x : D} {v : Value} (h : RV w F Γ (.d x) v) : RD w F x v := by cases h; assumption
theorem mkAgg_ok {w : World} {F : Nat → Prop} {Γ : List Slot} (cs : List AV) (vs : Array Value) (hs : vs.size = cs.length) (h1 : ∀ j, j < vs.size → (vs.getD j undef).oneCell' = true)
  (hr : ∀ j d, cs[j]? = some d → RV w F Γ d (vs.getD j undef)) : RV w F Γ (mkAgg cs) (.agg vs) := by
 unfold mkAgg
 split
 ·rename_i l h
  have := allD_some h
  subst this
  refine .d (.agg l vs (by simpa using hs) h1 (fun j d hj => ?_))
  exact (hr j (.d d) (by simp [hj])).of_d
 ·exact .agg cs vs hs h1 hr
theorem mkTup_ok {w : World} {F : Nat → Prop} {Γ : List Slot} (cs : List AV) (vs : Array Value) (hs : vs.size = cs.length)
  (hr : ∀ j d, cs[j]? = some d → RV w F Γ d (vs.getD j undef)) : RV w F Γ (mkTup cs) (.tuple vs) := by
 unfold mkTup
 split
 ·rename_i l h
  have := allD_some h
  subst this
  refine .d (.tup l vs (by simpa using hs) (fun j d hj => ?_))
  exact (hr j (.d d) (by simp [hj])).of_d
 ·exact .tup cs vs hs hr
theorem mkFunc_ok {w : World} {F : Nat → Prop} {Γ : List Slot} (f : FuncId) (cs : List AV) (vs : Array Value) (hs : vs.size = cs.length)
  (hr : ∀ j d, cs[j]? = some d → RV w F Γ d (vs.getD j undef)) : RV w F Γ (mkFunc f cs) (.func (.func f) #[] vs) := by
 unfold mkFunc
 split
 ·rename_i l h
  have := allD_some h
  subst this
  refine .d (.func f l vs (by simpa using hs) (fun j d hj => ?_))
  exact (hr j (.d d) (by simp [hj])).of_d
 ·exact .func f cs vs hs hr
theorem mkIface_ok {w : World} {F : Nat → Prop} {Γ : List Slot} (t : TypeId) {av : AV} {v : Value} (h : RV w F Γ av v) : RV w F Γ (mkIface t av) (.iface t v) := by
 cases av <;> simp only [mkIface] <;> first | exact .iface t _ _ h | exact .d (.iface t _ _ h.of_d)
def D.cells : D → Option (List D)
 | .agg ds => some ds
 | .tup _ => none
 | .int k n => some [.int k n]
 | .bool b => some [.bool b]
 | .str s => some [.str s]
 | .nilp => some [.nilp]
 | .nilf => some [.nilf]
 | .nili => some [.nili]
 | .nilm => some [.nilm]
 | .nils => some [.nils]
 | .slice sz xs => some [.slice sz xs]
 | .iface t v => some [.iface t v]
 | .func f cs => some [.func f cs]
 | .ptr a => some [.ptr a]
def AV.cells : AV → Option (List AV)
 | .dead => none
 | .d x => match x.cells with
  | some l => some (l.map .d)
  | none => none
 | .pvar id k => some [.pvar id k]
 | .parr id i k => some [.parr id i k]
 | .pval sz xs i k => some [.pval sz xs i k]
 | .svalf sz xs => some [.svalf sz xs]
 | .sfull id => some [.sfull id]
 | .spart id lo n => some [.spart id lo n]
 | .mapo id => some [.mapo id]
 | .func f cs => some [.func f cs]
 | .yield id => some [.yield id]
 | .iface t v => some [.iface t v]
 | .agg cs => some cs
 | .tup _ => none
theorem cells_one {w : World} {F : Nat → Prop} {Γ : List Slot} {av : AV} {v : Value} (h : RV w F Γ av v) (hv : v.cells = #[v]) (h1 : v.oneCell' = true) {cs : List AV} (hc : cs = [av]) :
  v.cells.size = cs.length ∧ (∀ j, j < v.cells.size → (v.cells.getD j undef).oneCell' = true) ∧ ∀ j d, cs[j]? = some d → RV w F Γ d (v.cells.getD j undef) := by
 subst hc
 rw [hv]
 refine ⟨rfl, fun j hj => ?_, fun j d hj => ?_⟩
 ·obtain rfl : j = 0 := by simpa using hj
  simpa using h1
 cases j with
 | zero => simp at hj; subst hj; simpa using h
 | succ j => simp at hj
theorem cells_ok {w : World} {F : Nat → Prop} {Γ : List Slot} {av : AV} {v : Value} (h : RV w F Γ av v) {cs : List AV} (hc : av.cells = some cs) :
  v.cells.size = cs.length ∧ (∀ j, j < v.cells.size → (v.cells.getD j undef).oneCell' = true) ∧ ∀ j d, cs[j]? = some d → RV w F Γ d (v.cells.getD j undef) := by
 cases h with
 | dead v => simp [AV.cells] at hc
 | tup _ _ _ _ => simp [AV.cells] at hc
 | agg cs' vs hs h1 hr => simp only [AV.cells, Option.some.injEq] at hc; subst hc; exact ⟨hs, h1, hr⟩
 | d h =>
  cases h with
  | tup _ _ _ _ => simp [AV.cells, D.cells] at hc
  | agg ds vs hs h1 hr =>
   simp only [AV.cells, D.cells, Option.some.injEq] at hc
   subst hc
   refine ⟨by simpa [Value.cells] using hs, h1, fun j d hj => ?_⟩
   ·rw [List.getElem?_map] at hj
    cases hx : ds[j]? with
    | none => simp [hx] at hj
    | some x => simp [hx] at hj; subst hj; exact .d (hr j x hx)
  | slice sz xs A c f h1 h2 h3 h4 h5 =>
   simp only [AV.cells, D.cells, Option.some.injEq] at hc
   exact cells_one (.d (.slice sz xs A c f h1 h2 h3 h4 h5)) rfl rfl (by simpa using hc.symm)
  | iface t d v hr =>
   simp only [AV.cells, D.cells, Option.some.injEq] at hc
   exact cells_one (.d (.iface t d v hr)) rfl rfl (by simpa using hc.symm)
  | func f cs' vs hs hr =>
   simp only [AV.cells, D.cells, Option.some.injEq] at hc
   exact cells_one (.d (.func f cs' vs hs hr)) rfl rfl (by simpa using hc.symm)
  | ptr a =>
   simp only [AV.cells, D.cells, Option.some.injEq] at hc
   exact cells_one (.d (.ptr a)) rfl rfl (by simpa using hc.symm)
  | int k n =>
   simp only [AV.cells, D.cells, Option.some.injEq] at hc
   exact cells_one (.d (.int k n)) rfl rfl (by simpa using hc.symm)
  | bool b =>
   simp only [AV.cells, D.cells, Option.some.injEq] at hc
   exact cells_one (.d (.bool b)) rfl rfl (by simpa using hc.symm)
  | str s =>
   simp only [AV.cells, D.cells, Option.some.injEq] at hc
   exact cells_one (.d (.str s)) rfl rfl (by simpa using hc.symm)
  | nilp =>
   simp only [AV.cells, D.cells, Option.some.injEq] at hc
   exact cells_one (.d .nilp) rfl rfl (by simpa using hc.symm)
  | nilf =>
   simp only [AV.cells, D.cells, Option.some.injEq] at hc
   exact cells_one (.d .nilf) rfl rfl (by simpa using hc.symm)
  | nili =>
   simp only [AV.cells, D.cells, Option.some.injEq] at hc
   exact cells_one (.d .nili) rfl rfl (by simpa using hc.symm)
  | nilm =>
   simp only [AV.cells, D.cells, Option.some.injEq] at hc
   exact cells_one (.d .nilm) rfl rfl (by simpa using hc.symm)
  | nils =>
   simp only [AV.cells, D.cells, Option.some.injEq] at hc
   exact cells_one (.d .nils) rfl rfl (by simpa using hc.symm)
 | pvar hs hb => simp only [AV.cells, Option.some.injEq] at hc; exact cells_one (.pvar hs hb) rfl rfl hc.symm
 | parr hs hb => simp only [AV.cells, Option.some.injEq] at hc; exact cells_one (.parr hs hb) rfl rfl hc.symm
 | pval h hi => simp only [AV.cells, Option.some.injEq] at hc; exact cells_one (.pval h hi) rfl rfl hc.symm
 | svalf h => simp only [AV.cells, Option.some.injEq] at hc; exact cells_one (.svalf h) rfl rfl hc.symm
 | sfull hs hA => simp only [AV.cells, Option.some.injEq] at hc; exact cells_one (.sfull hs hA) rfl rfl hc.symm
 | spart hs hn ha => simp only [AV.cells, Option.some.injEq] at hc; exact cells_one (.spart hs hn ha) rfl rfl hc.symm
 | mapo hs hb => simp only [AV.cells, Option.some.injEq] at hc; exact cells_one (.mapo hs hb) rfl rfl hc.symm
 | func f cs' vs hs hr => simp only [AV.cells, Option.some.injEq] at hc; exact cells_one (.func f cs' vs hs hr) rfl rfl hc.symm
 | yield hs hb => simp only [AV.cells, Option.some.injEq] at hc; exact cells_one (.yield hs hb) rfl rfl hc.symm
 | iface t d v hr => simp only [AV.cells, Option.some.injEq] at hc; exact cells_one (.iface t d v hr) rfl rfl hc.symm
/-! ### Reading -/
def ldK (E : Env) (T : TypeId) : Option (Option Nat) := match E.ty T with
 | none => none
 | some i => match i.k with
  | .struct _ => some (some i.size)
  | .array _ _ => some (some i.size)
  | .int _ => some none
  | .bool => some none
  | .string => some none
  | .slice _ => some none
  | .map _ _ => some none
  | .ptr _ => some none
  | .iface => some none
  | .func => some none
  | .tuple => some none
def cel (xs : List (List D)) (i k : Nat) : D := (xs.getD i []).getD k .nilp
def seg (xs : List (List D)) (i k n : Nat) : List D := ((xs.getD i []).drop k).take n
def rdRow (E : Env) (T : TypeId) (sz : Nat) (xs : List (List D)) (i k : Nat) (K : AV → Prop) : Prop := match ldK E T with
 | some none => i < xs.length ∧ k < sz ∧ K (.d (cel xs i k))
 | some (some n) => i < xs.length ∧ k + n ≤ sz ∧ K (.d (.agg (seg xs i k n)))
 | none => False
def aload (E : Env) (T : TypeId) (H : List AObj) (K : AV → Prop) : AV → Prop
 | .pvar id k => match H.getD id .none with
  | .var cs => match ldK E T with
   | some none => match cs[k]? with
    | some av => K av
    | none => False
   | some (some n) => k + n ≤ cs.length ∧ K (mkAgg ((cs.drop k).take n))
   | none => False
  | _ => False
 | .parr id i k => match H.getD id .none with
  | .arr _ sz xs => rdRow E T sz xs i k K
  | _ => False
 | .pval sz xs i k => rdRow E T sz xs i k K
 | _ => False
section
variable {E : Env} (hE : EnvOk E) {w : World} {F : Nat → Prop} {Γ : List Slot} {H : List AObj}
theorem run_ty {t : TypeId} {i : TI} (hE : EnvOk E) (h : E.ty t = some i) : ∃ d, i.k.fits d ∧ ∀ w, (underlying t).run E.P w = .ok d w := by
 obtain ⟨d, h1, h2⟩ := hE.desc t i h
 exact ⟨d, h2, fun w => run_underlying h1 w⟩
theorem run_sz {t : TypeId} {i : TI} (hE : EnvOk E) (h : E.ty t = some i) (w : World) : (sizeOf t).run E.P w = .ok i.size w := by
 obtain ⟨inf, z, h1, h2, _⟩ := hE.info t i h
 simp [sizeOf, typeInfo, h1, h2]
theorem run_agg_none {t : TypeId} (hE : EnvOk E) (h : ldK E t = some none) (w : World) : (isAgg t).run E.P w = .ok false w := by
 unfold ldK at h
 cases hi : E.ty t with
 | none => simp [hi] at h
 | some i =>
  simp only [hi] at h
  obtain ⟨d, hf, hr⟩ := run_ty hE hi
  simp only [isAgg, Sem.run_bind, hr, Result.andThen_ok]
  cases hd : i.k <;> simp only [hd, Kd.fits, reduceCtorEq, Option.some.injEq] at h hf
  all_goals first
   | (subst hf; rfl)
   | (obtain ⟨_, rfl⟩ := hf; rfl)
   | (obtain ⟨_, _, _, rfl⟩ := hf; rfl)
theorem run_agg_some {t : TypeId} {n : Nat} (hE : EnvOk E) (h : ldK E t = some (some n)) (w : World) :
  (isAgg t).run E.P w = .ok true w ∧ (sizeOf t).run E.P w = .ok n w := by
 unfold ldK at h
 cases hi : E.ty t with
 | none => simp [hi] at h
 | some i =>
  simp only [hi] at h
  obtain ⟨d, hf, hr⟩ := run_ty hE hi
  simp only [isAgg, Sem.run_bind, hr, Result.andThen_ok, run_sz hE hi]
  cases hd : i.k <;> simp only [hd, Kd.fits, reduceCtorEq, Option.some.injEq] at h hf
  ·subst hf; exact ⟨rfl, by rw [h]⟩
  ·obtain ⟨_, rfl, _⟩ := hf; exact ⟨rfl, by rw [h]⟩
theorem run_load_some {P : Program} {a : Addr} {v : Value} {w : World} (h : w.cell? a = some v) : (load a).run P w = .ok v w := by simp [h]
theorem run_loadCellsFrom {P : Program} {w : World} {a : Addr} : ∀ (n i : Nat) (acc : Array Value) (f : Nat → Value), (∀ j, j < n → w.cell? (a.add (i + j)) = some (f j)) →
  (loadCellsFrom a i n acc).run P w = .ok (acc ++ (List.ofFn (n := n) fun j => f j.1).toArray) w
 | 0, i, acc, f, h => by simp [loadCellsFrom]
 | n + 1, i, acc, f, h => by
  have h0 : w.cell? (a.add i) = some (f 0) := by simpa using h 0 (by omega)
  simp only [loadCellsFrom, Sem.run_bind, run_load_some h0, Result.andThen_ok]
  rw [run_loadCellsFrom n (i + 1) (acc.push (f 0)) (fun j => f (j + 1)) (fun j hj => by
   have := h (j + 1) (by omega)
   rwa [show i + (j + 1) = i + 1 + j by omega] at this)]
  congr 1
  apply Array.toList_inj.1
  simp [List.ofFn_succ]
theorem run_loadVar_one {t : TypeId} {a : Addr} {v : Value} {w : World} (hE : EnvOk E) (h : ldK E t = some none) (hc : w.cell? a = some v) : (loadVar t a).run E.P w = .ok v w := by
 simp only [loadVar, Sem.run_bind, run_agg_none hE h, Result.andThen_ok]
 simpa using run_load_some hc
theorem run_loadVar_agg {t : TypeId} {n : Nat} {a : Addr} {w : World} (hE : EnvOk E) (h : ldK E t = some (some n)) (f : Nat → Value) (hc : ∀ j, j < n → w.cell? (a.add j) = some (f j)) :
  (loadVar t a).run E.P w = .ok (.agg (List.ofFn (n := n) fun j => f j.1).toArray) w := by
 simp only [loadVar, Sem.run_bind, (run_agg_some hE h w).1, (run_agg_some hE h w).2, Result.andThen_ok, if_true, loadCells]
 rw [run_loadCellsFrom n 0 #[] f (by simpa using hc)]
 simp
theorem ofFn_getD (n : Nat) (f : Nat → Value) (j : Nat) (h : j < n) : ((List.ofFn (n := n) fun j => f j.1).toArray).getD j undef = f j := by
 simp [Array.getD_eq_getD_getElem?, h]
theorem RD.slice_inv {sz : Nat} {xs : List (List D)} {v : Value} (h : RD w F (.slice sz xs) v) : ∃ A c, v = .slice A xs.length c ∧ xs.length ≤ c ∧ (0 < xs.length → A.isSome = true) ∧ (∀ x ∈ xs, x.length = sz) ∧
  (∀ i k, i < xs.length → k < sz → ∃ a u, A = some a ∧ F a.block ∧ u.oneCell' = true ∧ w.cell? (a.add (i * sz + k)) = some u ∧ RD w F (cel xs i k) u) := by
 cases h with
 | slice sz xs A c f hc ha hl hm hr =>
  refine ⟨A, c, rfl, hc, ha, hl, fun i k hi hk => ?_⟩
  have hx : xs[i]? = some xs[i] := List.getElem?_eq_getElem hi
  have hlen : xs[i].length = sz := hl _ (List.getElem_mem hi)
  have hd : xs[i][k]? = some (xs[i][k]'(by omega)) := List.getElem?_eq_getElem (by omega)
  have e : cel xs i k = xs[i][k]'(by omega) := by simp [cel, List.getD_eq_getElem?_getD, hx, hd]
  obtain ⟨h1, a, ha, hb, hcell⟩ := hm i _ k _ hx hd
  exact ⟨a, f i k, ha, hb, h1, hcell, by rw [e]; exact hr i _ k _ hx hd⟩
theorem seg_get {sz : Nat} {xs : List (List D)} (hl : ∀ x ∈ xs, x.length = sz) {i k n : Nat} (hi : i < xs.length) (hk : k + n ≤ sz) :
  (seg xs i k n).length = n ∧ ∀ j d, (seg xs i k n)[j]? = some d → j < n ∧ d = cel xs i (k + j) := by
 have hx : xs[i]? = some xs[i] := List.getElem?_eq_getElem hi
 have hlen : xs[i].length = sz := hl _ (List.getElem_mem hi)
 have e : seg xs i k n = (xs[i].drop k).take n := by simp [seg, List.getD_eq_getElem?_getD, hx]
 refine ⟨by rw [e]; simp; omega, fun j d hj => ?_⟩
 rw [e, List.getElem?_take] at hj
 split at hj
 ·rename_i hjn
  refine ⟨hjn, ?_⟩
  rw [List.getElem?_drop] at hj
  simp [cel, List.getD_eq_getElem?_getD, hx, hj]
 ·simp at hj
theorem rdRow_ok (hE : EnvOk E) {T : TypeId} {sz : Nat} {xs : List (List D)} {i k : Nat} {K : AV → Prop} (h : rdRow E T sz xs i k K) {a : Addr} (hl : ∀ x ∈ xs, x.length = sz)
  (hc : ∀ k, i < xs.length → k < sz → ∃ u, u.oneCell' = true ∧ w.cell? (a.add k) = some u ∧ RD w F (cel xs i k) u) :
  ∃ v av, (loadVar T (a.add k)).run E.P w = .ok v w ∧ K av ∧ RV w F Γ av v := by
 unfold rdRow at h
 split at h
 ·rename_i hT
  obtain ⟨hi, hk, hK⟩ := h
  obtain ⟨u, _, hu, hd⟩ := hc k hi hk
  exact ⟨u, _, run_loadVar_one hE hT hu, hK, .d hd⟩
 ·rename_i n hT
  obtain ⟨hi, hk, hK⟩ := h
  have hc' : ∀ j, j < n → ∃ u, u.oneCell' = true ∧ w.cell? ((a.add k).add j) = some u ∧ RD w F (cel xs i (k + j)) u := fun j hj => by
   obtain ⟨u, h1, hu, hd⟩ := hc (k + j) hi (by omega)
   exact ⟨u, h1, by rw [Addr.add_add]; exact hu, hd⟩
  let f : Nat → Value := fun j => (w.cell? ((a.add k).add j)).getD undef
  have hf : ∀ j, j < n → w.cell? ((a.add k).add j) = some (f j) := fun j hj => by
   obtain ⟨u, _, hu, _⟩ := hc' j hj
   simp [f, hu]
  obtain ⟨hlen, hget⟩ := seg_get hl hi hk
  refine ⟨_, _, run_loadVar_agg hE hT f hf, hK, .d (.agg _ _ (by simp [hlen]) ?_ ?_)⟩
  ·intro j hj
   have hjn : j < n := by simpa using hj
   rw [ofFn_getD n f j hjn]
   obtain ⟨u, h1, hu, _⟩ := hc' j hjn
   have : f j = u := by simp [f, hu]
   rw [this]; exact h1
  ·intro j d hj
   obtain ⟨hjn, rfl⟩ := hget j d hj
   rw [ofFn_getD n f j hjn]
   obtain ⟨u, _, hu, hd⟩ := hc' j hjn
   have : f j = u := by simp [f, hu]
   rw [this]; exact hd
 ·exact h.elim
theorem obj_at (hS : SR E w F Γ H) {id : Nat} {s : Slot} (hs : Γ[id]? = some s) {o : AObj} (ho : H.getD id .none = o) (hl : o.live = true) : H[id]? = some o ∧ RO w F Γ s o := by
 rw [List.getD_eq_getElem?_getD] at ho
 cases h : H[id]? with
 | none => rw [h] at ho; simp at ho; subst ho; simp [AObj.live] at hl
 | some o' => rw [h] at ho; simp at ho; subst ho; exact ⟨rfl, hS.obj id s _ hs h⟩
theorem cell_of_heap {b k : Nat} {c : Array Value} {ty : TypeId} {fr : Nat × Nat} (h : w.heap[b]? = some (.cells c ty fr)) : w.cell? ⟨b, k, none⟩ = c[k]? := by
 simp [World.cell?, h]
theorem getD_of {c : Array Value} {k : Nat} (h : k < c.size) : c[k]? = some (c.getD k undef) := by
 simp [Array.getD_eq_getD_getElem?, h]
theorem aload_ok (hE : EnvOk E) (hS : SR E w F Γ H) {T : TypeId} {K : AV → Prop} {av : AV} (h : aload E T H K av) {v : Value} (hv : RV w F Γ av v) :
  ∃ u au, (Instr.loadAt T v).run E.P w = .ok u w ∧ K au ∧ RV w F Γ au u := by
 cases hv with
 | pvar hs hb =>
  rename_i id k s b
  simp only [aload] at h
  split at h <;> try exact h.elim
  rename_i cs ho
  obtain ⟨_, hro⟩ := obj_at hS hs ho rfl
  obtain ⟨b', c, ty, hb', hh, hsz, hcells⟩ := hro
  obtain rfl : b' = b := by rw [hb] at hb'; exact (Option.some.inj hb').symm
  simp only [Instr.loadAt, Instr.sureAddr, Sem.run_bind, Sem.run_pure, Result.andThen_ok]
  split at h
  ·rename_i hT
   split at h
   ·rename_i cv hk
    obtain ⟨hlt, _⟩ := List.getElem?_eq_some_iff.1 hk
    exact ⟨_, _, run_loadVar_one hE hT (by rw [cell_of_heap hh]; exact getD_of (by omega)), h, (hcells _ _ hk).2⟩
   ·exact h.elim
  ·rename_i n hT
   obtain ⟨hkn, hK⟩ := h
   refine ⟨_, _, run_loadVar_agg hE hT (fun j => c.getD (k + j) undef) (fun j hj => by
    rw [add_plain, cell_of_heap hh]; exact getD_of (by omega)), hK, ?_⟩
   refine mkAgg_ok _ _ (by simp; omega) ?_ ?_
   ·intro j hj
    have hjn : j < n := by simpa using hj
    rw [ofFn_getD n (fun j => c.getD (k + j) undef) j hjn]
    exact (hcells (k + j) (cs[k + j]'(by omega)) (List.getElem?_eq_getElem (by omega))).1
   ·intro j d hj
    rw [List.getElem?_take] at hj
    split at hj
    ·rename_i hjn
     rw [List.getElem?_drop] at hj
     rw [ofFn_getD n (fun j => c.getD (k + j) undef) j hjn]
     exact (hcells _ _ hj).2
    ·simp at hj
  ·exact h.elim
 | parr hs hb =>
  rename_i id i k s b
  simp only [aload] at h
  split at h <;> try exact h.elim
  rename_i _ sz xs ho
  obtain ⟨_, hro⟩ := obj_at hS hs ho rfl
  obtain ⟨hsz, hlen, hcap, hl, hro⟩ := hro
  simp only [Instr.loadAt, Instr.sureAddr, Sem.run_bind, Sem.run_pure, Result.andThen_ok]
  have key := rdRow_ok (Γ := Γ) (w := w) (F := F) (a := ⟨b, i * s.sz, none⟩) hE h hl (fun k hi hk => by
   rcases hro with ⟨hn, _⟩ | ⟨b', c, hb', hh, hcs, hcells⟩
   ·rw [hn] at hb; simp at hb
   ·obtain rfl : b' = b := by rw [hb] at hb'; exact (Option.some.inj hb').symm
    have hx : xs[i]? = some xs[i] := List.getElem?_eq_getElem hi
    have hxl : xs[i].length = sz := hl _ (List.getElem_mem hi)
    have hd : xs[i][k]? = some (xs[i][k]'(by omega)) := List.getElem?_eq_getElem (by omega)
    have e : cel xs i k = xs[i][k]'(by omega) := by simp [cel, List.getD_eq_getElem?_getD, hx, hd]
    obtain ⟨h1, h2⟩ := hcells i _ k _ hx hd
    have hin : i * sz + k < c.size := by
     have h3 : (i + 1) * sz ≤ s.cap * sz := Nat.mul_le_mul_right _ (by omega)
     rw [Nat.succ_mul] at h3
     omega
    refine ⟨c.getD (i * sz + k) undef, h1, ?_, by rw [e]; exact h2⟩
    rw [add_plain, cell_of_heap hh, hsz]
    exact getD_of hin)
  rw [add_plain] at key
  exact key
 | pval hr hi =>
  rename_i sz xs i k c a
  simp only [aload] at h
  simp only [Instr.loadAt, Instr.sureAddr, Sem.run_bind, Sem.run_pure, Result.andThen_ok]
  obtain ⟨A, c', e, hc, _, hl, hcells⟩ := hr.slice_inv
  have key := rdRow_ok (Γ := Γ) (w := w) (F := F) (a := a.add (i * sz)) hE h hl (fun k hi hk => by
   obtain ⟨a', u, ha', _, h1, h2, h3⟩ := hcells i k hi hk
   injection e with e1 _ e2
   rw [ha'] at e1
   obtain rfl := Option.some.inj e1
   exact ⟨u, h1, by rw [Addr.add_add]; exact h2, h3⟩)
  rw [Addr.add_add] at key
  exact key
 | _ => simp only [aload] at h
end
end Go.Abs
end
section
set_option autoImplicit false
set_option linter.unusedVariables false
set_option linter.unusedSimpArgs false
namespace Go.Abs
/-! ### Numbers -/
def ibits (op : BinOp) (k : IntKind) (x y : Int) : Int :=
 match op with
 | .and => k.wrap (BitVec.ofInt k.bits x &&& BitVec.ofInt k.bits y).toNat
 | .or => k.wrap (BitVec.ofInt k.bits x ||| BitVec.ofInt k.bits y).toNat
 | .xor => k.wrap (BitVec.ofInt k.bits x ^^^ BitVec.ofInt k.bits y).toNat
 | _ => k.wrap (BitVec.ofInt k.bits x &&& ~~~ BitVec.ofInt k.bits y).toNat
def aint (op : BinOp) (k : IntKind) (a : Int) (k' : IntKind) (b : Int) (K : AV → Prop) : Prop :=
 match op with
 | .add => k = k' ∧ K (.d (.int k (k.wrap (a + b))))
 | .sub => k = k' ∧ K (.d (.int k (k.wrap (a - b))))
 | .mul => k = k' ∧ K (.d (.int k (k.wrap (a * b))))
 | .quo => k = k' ∧ b ≠ 0 ∧ K (.d (.int k (k.wrap (a.tdiv b))))
 | .rem => k = k' ∧ b ≠ 0 ∧ K (.d (.int k (a.tmod b)))
 | .and => k = k' ∧ K (.d (.int k (ibits .and k a b)))
 | .or => k = k' ∧ K (.d (.int k (ibits .or k a b)))
 | .xor => k = k' ∧ K (.d (.int k (ibits .xor k a b)))
 | .andNot => k = k' ∧ K (.d (.int k (ibits .andNot k a b)))
 | .shl => 0 ≤ b ∧ K (.d (.int k (k.wrap (a * 2 ^ (min b.toNat k.bits)))))
 | .shr => 0 ≤ b ∧ K (.d (.int k (a.fdiv (2 ^ (min b.toNat k.bits)))))
 | .eql => k = k' ∧ K (.d (.bool (a == b)))
 | .neq => k = k' ∧ K (.d (.bool (a != b)))
 | .lss => k = k' ∧ K (.d (.bool (decide (a < b))))
 | .leq => k = k' ∧ K (.d (.bool (decide (a ≤ b))))
 | .gtr => k = k' ∧ K (.d (.bool (decide (a > b))))
 | .geq => k = k' ∧ K (.d (.bool (decide (a ≥ b))))
def bEq (op : BinOp) (r : Bool) (K : AV → Prop) : Prop :=
 match op with
 | .eql => K (.d (.bool r))
 | .neq => K (.d (.bool (!r)))
 | _ => False
def astr (op : BinOp) (a b : ByteArray) (K : AV → Prop) : Prop :=
 match op with
 | .eql => K (.d (.bool (a.toList == b.toList)))
 | .neq => K (.d (.bool (!(a.toList == b.toList))))
 | .add => ((a.size + b.size : Nat) : Int) ≤ IntKind.i64.max ∧ K (.d (.str (a ++ b)))
 | _ => False
def ptrish : AV → Option Bool
 | .d .nilp => some false
 | .pvar _ _ => some true
 | .parr _ _ _ => some true
 | .pval _ _ _ _ => some true
 | _ => none
def ifaceish : AV → Option Bool
 | .d .nili => some false
 | .d (.iface _ _) => some true
 | .iface _ _ => some true
 | _ => none
def isC : Operand → Bool
 | .const _ => true
 | _ => false
def kd (E : Env) (T : TypeId) : Option Kd := match E.ty T with
 | some i => some i.k
 | none => none
def acmp (E : Env) (op : BinOp) (T : TypeId) (c : Bool) (x y : AV) (K : AV → Prop) : Prop :=
 match kd E T with
 | some (.ptr _) => match ptrish x, ptrish y with
  | some false, some false => bEq op true K
  | some false, some true => bEq op false K
  | some true, some false => bEq op false K
  | _, _ => False
 | some .iface => match ifaceish x, ifaceish y with
  | some false, some false => c = true ∧ bEq op true K
  | some false, some true => bEq op false K
  | some true, some false => bEq op false K
  | _, _ => False
 | some (.struct _) => (match E.cmp T, x, y with
  | some g, .d a, .d b => g a = true ∧ g b = true ∧ bEq op (dkeq a b) K
  | _, _, _ => False)
 | some (.array _ _) => (match E.cmp T, x, y with
  | some g, .d a, .d b => g a = true ∧ g b = true ∧ bEq op (dkeq a b) K
  | _, _, _ => False)
 | some (.slice _) => (match x, y with
  | .d .nils, .d .nils => bEq op true K
  | _, _ => False)
 | _ => False
def abin (E : Env) (op : BinOp) (T : TypeId) (c : Bool) (x y : AV) (K : AV → Prop) : Prop :=
 match x, y with
 | .d (.int k a), .d (.int k' b) => aint op k a k' b K
 | .d (.bool a), .d (.bool b) => (match kd E T with
  | some .bool => bEq op (a == b) K
  | _ => False)
 | .d (.str a), .d (.str b) => astr op a b K
 | x, y => acmp E op T c x y K
section
variable {E : Env} {w : World} {F : Nat → Prop} {Γ : List Slot} {H : List AObj}
theorem guard_int (op : BinOp) (T : TypeId) (x y : Operand) (k k' : IntKind) (a b : Int) (P : Program) (w : World) :
  (eqGuard op T x y (.int k a) (.int k' b)).run P w = .ok () w := by
 unfold eqGuard
 split <;> simp
theorem aint_ok {op : BinOp} {k k' : IntKind} {a b : Int} {K : AV → Prop} (h : aint op k a k' b K) (T : TypeId) (x y : Operand) (P : Program) :
  ∃ v av, ((do eqGuard op T x y (.int k a) (.int k' b); binOp op T (.int k a) (.int k' b)) : Sem Value).run P w = .ok v w ∧ K av ∧ RV w F Γ av v := by
 simp only [Sem.run_bind, guard_int, Result.andThen_ok]
 cases op <;> simp only [aint] at h
 case add => obtain ⟨rfl, h⟩ := h; exact ⟨_, _, by simp [binOp, Op.intArith], h, .d (.int _ _)⟩
 case sub => obtain ⟨rfl, h⟩ := h; exact ⟨_, _, by simp [binOp, Op.intArith], h, .d (.int _ _)⟩
 case mul => obtain ⟨rfl, h⟩ := h; exact ⟨_, _, by simp [binOp, Op.intArith], h, .d (.int _ _)⟩
 case quo => obtain ⟨rfl, h0, h⟩ := h; exact ⟨_, _, by simp [binOp, Op.intDiv, h0], h, .d (.int _ _)⟩
 case rem => obtain ⟨rfl, h0, h⟩ := h; exact ⟨_, _, by simp [binOp, Op.intDiv, h0], h, .d (.int _ _)⟩
 case and => obtain ⟨rfl, h⟩ := h; exact ⟨_, _, by simp only [binOp, Op.intBits, ne_eq, not_true_eq_false, if_false]; rfl, h, .d (.int _ _)⟩
 case or => obtain ⟨rfl, h⟩ := h; exact ⟨_, _, by simp only [binOp, Op.intBits, ne_eq, not_true_eq_false, if_false]; rfl, h, .d (.int _ _)⟩
 case xor => obtain ⟨rfl, h⟩ := h; exact ⟨_, _, by simp only [binOp, Op.intBits, ne_eq, not_true_eq_false, if_false]; rfl, h, .d (.int _ _)⟩
 case andNot => obtain ⟨rfl, h⟩ := h; exact ⟨_, _, by simp only [binOp, Op.intBits, ne_eq, not_true_eq_false, if_false]; rfl, h, .d (.int _ _)⟩
 case shl => obtain ⟨h0, h⟩ := h; exact ⟨_, _, by simp [binOp, Op.shift, Int.not_lt.2 h0], h, .d (.int _ _)⟩
 case shr => obtain ⟨h0, h⟩ := h; exact ⟨_, _, by simp [binOp, Op.shift, Int.not_lt.2 h0], h, .d (.int _ _)⟩
 case eql => obtain ⟨rfl, h⟩ := h; exact ⟨_, _, by simp [binOp, Op.intCmp], h, .d (.bool _)⟩
 case neq => obtain ⟨rfl, h⟩ := h; exact ⟨_, _, by simp [binOp, Op.intCmp], h, .d (.bool _)⟩
 case lss => obtain ⟨rfl, h⟩ := h; exact ⟨_, _, by simp [binOp, Op.intCmp], h, .d (.bool _)⟩
 case leq => obtain ⟨rfl, h⟩ := h; exact ⟨_, _, by simp [binOp, Op.intCmp], h, .d (.bool _)⟩
 case gtr => obtain ⟨rfl, h⟩ := h; exact ⟨_, _, by simp [binOp, Op.intCmp], h, .d (.bool _)⟩
 case geq => obtain ⟨rfl, h⟩ := h; exact ⟨_, _, by simp [binOp, Op.intCmp], h, .d (.bool _)⟩
theorem equal_run {P : Program} {T : TypeId} {x y : Value} {r : Bool} (h : ∀ d, (Op.equalIn (d + 1) T x y).run P w = .ok r w) : (Op.equal T x y).run P w = .ok r w := h 9999
theorem bEq_ok {op : BinOp} {r : Bool} {K : AV → Prop} (h : bEq op r K) {T : TypeId} {x y : Operand} {a b : Value} {P : Program}
  (hb : op = .eql ∨ op = .neq → (binOp op T a b) = (if op = .eql then do pure (.bool (← Op.equal T a b)) else do pure (.bool (!(← Op.equal T a b)))))
  (hg : (eqGuard op T x y a b).run P w = .ok () w) (he : (Op.equal T a b).run P w = .ok r w) :
  ∃ v av, ((do eqGuard op T x y a b; binOp op T a b) : Sem Value).run P w = .ok v w ∧ K av ∧ RV w F Γ av v := by
 simp only [Sem.run_bind, hg, Result.andThen_ok]
 cases op <;> simp only [bEq] at h
 case eql => exact ⟨_, _, by rw [hb (.inl rfl)]; simp [he], h, .d (.bool _)⟩
 case neq => exact ⟨_, _, by rw [hb (.inr rfl)]; simp [he], h, .d (.bool _)⟩
theorem astr_ok {op : BinOp} {a b : ByteArray} {K : AV → Prop} (h : astr op a b K) (T : TypeId) (x y : Operand) (P : Program) :
  ∃ v av, ((do eqGuard op T x y (.string a) (.string b); binOp op T (.string a) (.string b)) : Sem Value).run P w = .ok v w ∧ K av ∧ RV w F Γ av v := by
 have hg : (eqGuard op T x y (.string a) (.string b)).run P w = .ok () w := by unfold eqGuard; split <;> simp
 simp only [Sem.run_bind, hg, Result.andThen_ok]
 cases op <;> simp only [astr] at h
 case eql => exact ⟨_, _, by simp [binOp, Op.stringOp], h, .d (.bool _)⟩
 case neq => exact ⟨_, _, by simp [binOp, Op.stringOp], h, .d (.bool _)⟩
 case add => exact ⟨_, _, by simp only [binOp, Op.stringOp]; rw [if_neg (by omega)]; rfl, h.2, .d (.str _)⟩
theorem kd_some {T : TypeId} {k : Kd} (hE : EnvOk E) (h : kd E T = some k) : ∃ d, k.fits d ∧ ∀ w, (underlying T).run E.P w = .ok d w := by
 unfold kd at h
 cases hi : E.ty T with
 | none => simp [hi] at h
 | some i => simp [hi] at h; subst h; exact run_ty hE hi
theorem ptrish_false {x : AV} {v : Value} (h : ptrish x = some false) (hv : RV w F Γ x v) : v = .pointer none := by
 cases hv with
 | d hd => cases hd <;> simp [ptrish] at h <;> rfl
 | _ => simp [ptrish] at h
theorem ptrish_true {x : AV} {v : Value} (h : ptrish x = some true) (hv : RV w F Γ x v) : ∃ a, v = .pointer (some a) := by
 cases hv with
 | d hd => cases hd <;> simp [ptrish] at h
 | pvar _ _ => exact ⟨_, rfl⟩
 | parr _ _ => exact ⟨_, rfl⟩
 | pval _ _ => exact ⟨_, rfl⟩
 | _ => simp [ptrish] at h
theorem ifaceish_false {x : AV} {v : Value} (h : ifaceish x = some false) (hv : RV w F Γ x v) : v = .nilIface := by
 cases hv with
 | d hd => cases hd <;> simp [ifaceish] at h <;> rfl
 | _ => simp [ifaceish] at h
theorem ifaceish_true {x : AV} {v : Value} (h : ifaceish x = some true) (hv : RV w F Γ x v) : ∃ t u, v = .iface t u := by
 cases hv with
 | d hd => cases hd <;> simp [ifaceish] at h; exact ⟨_, _, rfl⟩
 | iface t d v hr => exact ⟨_, _, rfl⟩
 | _ => simp [ifaceish] at h
theorem guard_nil {op : BinOp} {T : TypeId} {x y : Operand} {P : Program} (hc : (isC x || isC y) = true) : (eqGuard op T x y .nilIface .nilIface).run P w = .ok () w := by
 unfold eqGuard
 cases x <;> cases y <;> simp [isC] at hc <;> (split <;> simp)
theorem acmp_ok (hE : EnvOk E) {op : BinOp} {T : TypeId} {x y : Operand} {ax ay : AV} {K : AV → Prop} (h : acmp E op T (isC x || isC y) ax ay K) {a b : Value}
  (hx : RV w F Γ ax a) (hy : RV w F Γ ay b) :
  ∃ v av, ((do eqGuard op T x y a b; binOp op T a b) : Sem Value).run E.P w = .ok v w ∧ K av ∧ RV w F Γ av v := by
 unfold acmp at h
 split at h
 ·rename_i e hk
  obtain ⟨d, hf, hr⟩ := kd_some hE hk
  simp only [Kd.fits] at hf
  subst hf
  have ptr : ∀ (p q : Option Addr) (r : Bool), bEq op r K → (Op.equal T (.pointer p) (.pointer q)).run E.P w = .ok r w → a = .pointer p → b = .pointer q →
    ∃ v av, ((do eqGuard op T x y a b; binOp op T a b) : Sem Value).run E.P w = .ok v w ∧ K av ∧ RV w F Γ av v := by
   rintro p q r hb he rfl rfl
   refine bEq_ok hb (fun ho => ?_) (by unfold eqGuard; split <;> simp) he
   rcases ho with rfl | rfl <;> simp [binOp]
  split at h
  ·rename_i h1 h2
   exact ptr none none true h (equal_run fun d => by simp [Op.equalIn, hr]) (ptrish_false h1 hx) (ptrish_false h2 hy)
  ·rename_i h1 h2
   obtain ⟨q, hq⟩ := ptrish_true h2 hy
   exact ptr none (some q) false h (equal_run fun d => by simp [Op.equalIn, hr]) (ptrish_false h1 hx) hq
  ·rename_i h1 h2
   obtain ⟨q, hq⟩ := ptrish_true h1 hx
   exact ptr (some q) none false h (equal_run fun d => by simp [Op.equalIn, hr]) hq (ptrish_false h2 hy)
  ·exact h.elim
 ·rename_i hk
  obtain ⟨d, hf, hr⟩ := kd_some hE hk
  obtain ⟨ms, rfl⟩ := hf
  split at h
  ·rename_i h1 h2
   obtain ⟨hc, h⟩ := h
   obtain rfl := ifaceish_false h1 hx
   obtain rfl := ifaceish_false h2 hy
   refine bEq_ok h (fun ho => ?_) (guard_nil hc) (equal_run fun d => by simp [Op.equalIn, hr])
   rcases ho with rfl | rfl <;> simp [binOp]
  ·rename_i h1 h2
   obtain rfl := ifaceish_false h1 hx
   obtain ⟨t, u, rfl⟩ := ifaceish_true h2 hy
   refine bEq_ok h (fun ho => ?_) (by unfold eqGuard; split <;> simp) (equal_run fun d => by simp [Op.equalIn, hr])
   rcases ho with rfl | rfl <;> simp [binOp]
  ·rename_i h1 h2
   obtain ⟨t, u, rfl⟩ := ifaceish_true h1 hx
   obtain rfl := ifaceish_false h2 hy
   refine bEq_ok h (fun ho => ?_) (by unfold eqGuard; split <;> simp) (equal_run fun d => by simp [Op.equalIn, hr])
   rcases ho with rfl | rfl <;> simp [binOp]
  ·exact h.elim
 ·rename_i fs hk
  split at h <;> try exact h.elim
  rename_i g a' b' hg
  obtain ⟨h1, h2, h⟩ := h
  exact bEq_ok h (fun ho => (hE.cmp T g hg).bin op w F _ _ _ _ h1 h2 hx.of_d hy.of_d ho) ((hE.cmp T g hg).grd op x y w F _ _ _ _ h1 h2 hx.of_d hy.of_d) ((hE.cmp T g hg).eq w F _ _ _ _ h1 h2 hx.of_d hy.of_d)
 ·rename_i fs hk
  split at h <;> try exact h.elim
  rename_i g a' b' hg
  obtain ⟨h1, h2, h⟩ := h
  exact bEq_ok h (fun ho => (hE.cmp T g hg).bin op w F _ _ _ _ h1 h2 hx.of_d hy.of_d ho) ((hE.cmp T g hg).grd op x y w F _ _ _ _ h1 h2 hx.of_d hy.of_d) ((hE.cmp T g hg).eq w F _ _ _ _ h1 h2 hx.of_d hy.of_d)
 ·rename_i e hk
  obtain ⟨d, hf, hr⟩ := kd_some hE hk
  simp only [Kd.fits] at hf
  subst hf
  split at h
  ·have h1 := hx.of_d
   have h2 := hy.of_d
   cases h1
   cases h2
   refine bEq_ok h (fun ho => ?_) (by unfold eqGuard; split <;> simp) (equal_run fun d => by simp [Op.equalIn, hr])
   rcases ho with rfl | rfl <;> simp [binOp]
  ·exact h.elim
 ·exact h.elim
theorem RD_int {k : IntKind} {n : Int} {v : Value} (h : RD w F (.int k n) v) : v = .int k n := by cases h; rfl
theorem RD_bool {b : Bool} {v : Value} (h : RD w F (.bool b) v) : v = .bool b := by cases h; rfl
theorem RD_str {s : ByteArray} {v : Value} (h : RD w F (.str s) v) : v = .string s := by cases h; rfl
theorem abin_ok (hE : EnvOk E) {op : BinOp} {T : TypeId} {x y : Operand} {ax ay : AV} {K : AV → Prop} (h : abin E op T (isC x || isC y) ax ay K) {a b : Value}
  (hx : RV w F Γ ax a) (hy : RV w F Γ ay b) :
  ∃ v av, ((do eqGuard op T x y a b; binOp op T a b) : Sem Value).run E.P w = .ok v w ∧ K av ∧ RV w F Γ av v := by
 unfold abin at h
 split at h
 ·obtain rfl := RD_int hx.of_d
  obtain rfl := RD_int hy.of_d
  exact aint_ok h T x y E.P
 ·obtain rfl := RD_bool hx.of_d
  obtain rfl := RD_bool hy.of_d
  split at h
  ·rename_i p q _ hk
   obtain ⟨d, hf, hr⟩ := kd_some hE hk
   simp only [Kd.fits] at hf
   subst hf
   refine bEq_ok h (fun ho => ?_) (by unfold eqGuard; split <;> simp) (equal_run fun d => by simp [Op.equalIn, hr])
   rcases ho with rfl | rfl <;> simp [binOp]
  ·exact h.elim
 ·obtain rfl := RD_str hx.of_d
  obtain rfl := RD_str hy.of_d
  exact astr_ok h T x y E.P
 ·exact acmp_ok hE h hx hy
def isSl (E : Env) (T : TypeId) : Bool := match kd E T with
 | some (.slice _) => true
 | _ => false
def aopBin (E : Env) (op : BinOp) (T : TypeId) (c : Bool) (x y : AV) (K : AV → Prop) : Prop := match isSl E T, x, y with
 | true, .d (.slice _ xs), .d .nils => bEq op false K ∧ (xs = [] → bEq op true K)
 | _, x, y => abin E op T c x y K
theorem abin_aopBin {op : BinOp} {T : TypeId} {c : Bool} {x y : AV} {K : AV → Prop} (h : abin E op T c x y K) : aopBin E op T c x y K := by
 unfold aopBin
 split
 ·rename_i hs
  unfold isSl at hs
  split at hs
  ·rename_i hk
   unfold abin acmp at h
   simp only [hk] at h
  ·cases hs
 ·exact h
theorem aopBin_ok (hE : EnvOk E) {op : BinOp} {T : TypeId} {x y : Operand} {ax ay : AV} {K : AV → Prop} (h : aopBin E op T (isC x || isC y) ax ay K) {a b : Value}
  (hx : RV w F Γ ax a) (hy : RV w F Γ ay b) :
  ∃ v av, ((do eqGuard op T x y a b; binOp op T a b) : Sem Value).run E.P w = .ok v w ∧ K av ∧ RV w F Γ av v := by
 unfold aopBin at h
 split at h
 ·rename_i sz xs hs
  unfold isSl at hs
  split at hs
  ·rename_i e hk
   obtain ⟨d, hf, hr⟩ := kd_some hE hk
   simp only [Kd.fits] at hf
   subst hf
   have h1 := hx.of_d
   have h2 := hy.of_d
   cases h2
   have fin : ∀ (A : Option Addr) (n c : Nat) (r : Bool), bEq op r K → A.isNone = r → a = .slice A n c → ∃ v av, ((do eqGuard op T x y a (.slice none 0 0); binOp op T a (.slice none 0 0)) : Sem Value).run E.P w = .ok v w ∧ K av ∧ RV w F Γ av v := by
    rintro A n c r hb hA rfl
    refine bEq_ok hb (fun ho => ?_) (by unfold eqGuard; split <;> simp) (equal_run fun d => by
     cases A with
     | none => simp at hA; subst hA; simp [Op.equalIn, hr]
     | some q => simp at hA; subst hA; simp [Op.equalIn, hr])
    rcases ho with rfl | rfl <;> simp [binOp]
   cases h1 with
   | slice _ _ A c f g1 g2 g3 g4 g5 =>
    cases A with
    | some q => exact fin (some q) _ _ false h.1 rfl rfl
    | none =>
     by_cases hxs : xs = []
     ·exact fin none _ _ true (h.2 hxs) rfl rfl
     ·exfalso
      cases xs with
      | nil => exact hxs rfl
      | cons z zs => exact absurd (g2 (by simp)) (by simp)
  ·cases hs
 ·exact abin_ok hE h hx hy
/-! ### One operand -/
def aun (op : UnOp) (x : AV) (K : AV → Prop) : Prop := match op, x with
 | .not, .d (.bool b) => K (.d (.bool (!b)))
 | .neg, .d (.int k n) => K (.d (.int k (k.wrap (0 - n))))
 | _, _ => False
theorem aun_ok {op : UnOp} {x : AV} {K : AV → Prop} (h : aun op x K) {a : Value} (hx : RV w F Γ x a) (P : Program) :
  ∃ v av, (Op.unary op a).run P w = .ok v w ∧ K av ∧ RV w F Γ av v := by
 unfold aun at h
 split at h
 ·obtain rfl := RD_bool hx.of_d; exact ⟨_, _, rfl, h, .d (.bool _)⟩
 ·obtain rfl := RD_int hx.of_d; exact ⟨_, _, rfl, h, .d (.int _ _)⟩
 ·exact h.elim
def aconv (E : Env) (src dst : TypeId) (x : AV) (K : AV → Prop) : Prop := match kd E src, kd E dst, x with
 | some _, some (.int k), .d (.int _ n) => K (.d (.int k (k.wrap n)))
 | _, _, _ => False
theorem aconv_ok (hE : EnvOk E) {src dst : TypeId} {x : AV} {K : AV → Prop} (h : aconv E src dst x K) {a : Value} (hx : RV w F Γ x a) :
  ∃ v av, (convert src dst a).run E.P w = .ok v w ∧ K av ∧ RV w F Γ av v := by
 unfold aconv at h
 split at h
 ·rename_i h1 h2
  obtain ⟨d1, hf1, hr1⟩ := kd_some hE h1
  obtain ⟨d2, hf2, hr2⟩ := kd_some hE h2
  simp only [Kd.fits] at hf2
  subst hf2
  obtain rfl := RD_int hx.of_d
  exact ⟨_, _, by simp [convert, hr1, hr2, Conv.intToInt], h, .d (.int _ _)⟩
 ·exact h.elim
def anil (x : AV) (K : AV → Prop) : Prop := match x with
 | .pvar id k => K (.pvar id k)
 | .parr id i k => K (.parr id i k)
 | .pval sz xs i k => K (.pval sz xs i k)
 | .func f cs => K (.func f cs)
 | .iface t v => K (.iface t v)
 | .d (.iface t v) => K (.d (.iface t v))
 | .d (.func f cs) => K (.d (.func f cs))
 | _ => False
/-! ### Rows -/
def rowLen (H : List AObj) : AV → Option Nat
 | .d (.slice _ xs) => some xs.length
 | .d .nils => some 0
 | .svalf _ xs => some xs.length
 | .sfull id => match H.getD id .none with
  | .arr _ _ xs => some xs.length
  | _ => none
 | .spart _ _ n => some n
 | _ => none
theorem rowLen_ok (hS : SR E w F Γ H) {x : AV} {n : Nat} (h : rowLen H x = some n) {v : Value} (hv : RV w F Γ x v) : ∃ A c, v = .slice A n c ∧ n ≤ c := by
 cases hv with
 | d hd => cases hd <;> simp [rowLen] at h <;> subst h <;> first | exact ⟨_, _, rfl, by assumption⟩ | exact ⟨_, _, rfl, Nat.le_refl _⟩
 | svalf hd => simp [rowLen] at h; subst h; exact ⟨_, _, rfl, Nat.le_refl _⟩
 | spart hs hn ha => simp [rowLen] at h; subst h; exact ⟨_, _, rfl, hn⟩
 | sfull hs hA =>
  simp only [rowLen] at h
  split at h
  ·rename_i _ sz xs ho
   obtain ⟨_, h1, h2, h3, _⟩ := obj_at hS hs ho rfl
   simp at h
   subst h
   rw [← h2]; exact ⟨_, _, rfl, by omega⟩
  ·simp at h
 | _ => simp [rowLen] at h
def alen (E : Env) (T : TypeId) (H : List AObj) (x : AV) (K : AV → Prop) : Prop := match kd E T with
 | some (.slice _) => match rowLen H x with
  | some n => K (.d (.int .i64 n))
  | none => False
 | some .string => match x with
  | .d (.str s) => K (.d (.int .i64 s.size))
  | _ => False
 | some (.map _ _) => match x with
  | .d .nilm => K (.d (.int .i64 0))
  | .mapo id => match H.getD id .none with
   | .map es => K (.d (.int .i64 es.length))
   | _ => False
  | _ => False
 | _ => False
theorem alen_ok (hE : EnvOk E) (hS : SR E w F Γ H) {T T' : TypeId} {ts : Array TypeId} (hts : ts[0]? = some T) {x : AV} {K : AV → Prop} (h : alen E T H x K) {a : Value} {as : Array Value} (has : as[0]? = some a)
  (hx : RV w F Γ x a) : ∃ v av, (Builtin.len_ ts T' as).run E.P w = .ok v w ∧ K av ∧ RV w F Γ av v := by
 unfold alen at h
 split at h
 ·rename_i e hk
  obtain ⟨d, hf, hr⟩ := kd_some hE hk
  simp only [Kd.fits] at hf
  subst hf
  split at h
  ·rename_i n hn
   obtain ⟨A, c, rfl, _⟩ := rowLen_ok hS hn hx
   exact ⟨_, _, by simp [Builtin.len_, hts, has, hr, goInt], h, .d (.int _ _)⟩
  ·exact h.elim
 ·rename_i hk
  obtain ⟨d, hf, hr⟩ := kd_some hE hk
  simp only [Kd.fits] at hf
  subst hf
  split at h
  ·obtain rfl := RD_str hx.of_d
   exact ⟨_, _, by simp [Builtin.len_, hts, has, hr, goInt], h, .d (.int _ _)⟩
  ·exact h.elim
 ·rename_i kt e hk
  obtain ⟨d, hf, hr⟩ := kd_some hE hk
  simp only [Kd.fits] at hf
  subst hf
  split at h
  ·have hd := hx.of_d
   cases hd with
   | nilm => exact ⟨_, _, by simp [Builtin.len_, hts, has, hr, goInt], h, .d (.int _ _)⟩
  ·split at h <;> try exact h.elim
   rename_i es ho
   cases hx with
   | mapo hs hb =>
    rename_i s b
    obtain ⟨_, b', arr, clock, hb', hh, hR, _⟩ := obj_at hS hs ho rfl
    obtain rfl : b' = b := by rw [hb] at hb'; exact (Option.some.inj hb').symm
    rw [← hR] at h
    exact ⟨_, _, by simp [Builtin.len_, hts, has, hr, MapKept.run_getObj_map hh, goInt], h, .d (.int _ _)⟩
  ·exact h.elim
 ·exact h.elim
def rowPtr (H : List AObj) (sz : Nat) (x : AV) (n : Int) (K : AV → Prop) : Prop := match x with
 | .d (.slice sz' xs) => sz' = sz ∧ 0 ≤ n ∧ n < xs.length ∧ K (.pval sz' xs n.toNat 0)
 | .svalf sz' xs => sz' = sz ∧ 0 ≤ n ∧ n < xs.length ∧ K (.pval sz' xs n.toNat 0)
 | .sfull id => match H.getD id .none with
  | .arr _ sz' xs => sz' = sz ∧ 0 ≤ n ∧ n < xs.length ∧ K (.parr id n.toNat 0)
  | _ => False
 | .spart id lo m => match H.getD id .none with
  | .arr _ sz' xs => sz' = sz ∧ 0 ≤ n ∧ n < m ∧ lo + n.toNat < xs.length ∧ K (.parr id (lo + n.toNat) 0)
  | _ => False
 | _ => False
def esz (E : Env) (e : TypeId) : Option Nat := match E.ty e with
 | some i => some i.size
 | none => none
theorem esz_ok (hE : EnvOk E) {e : TypeId} {n : Nat} (h : esz E e = some n) (w : World) : (sizeOf e).run E.P w = .ok n w := by
 unfold esz at h
 cases hi : E.ty e with
 | none => simp [hi] at h
 | some i => simp [hi] at h; subst h; exact run_sz hE hi w
theorem rowPtr_ok (hS : SR E w F Γ H) {sz : Nat} {x : AV} {n : Int} {K : AV → Prop} (h : rowPtr H sz x n K) {v : Value} (hv : RV w F Γ x v) :
  ∃ a m c, v = .slice (some a) m c ∧ 0 ≤ n ∧ n < m ∧ ∃ av, K av ∧ RV w F Γ av (.pointer (some (a.add (n.toNat * sz)))) := by
 have val : ∀ (xs : List (List D)) (A : Option Addr) (c : Nat), RD w F (.slice sz xs) (.slice A xs.length c) → 0 ≤ n → n < xs.length → K (.pval sz xs n.toNat 0) →
   ∃ a m c', Value.slice A xs.length c = .slice (some a) m c' ∧ 0 ≤ n ∧ n < m ∧ ∃ av, K av ∧ RV w F Γ av (.pointer (some (a.add (n.toNat * sz)))) := by
  intro xs A c hd h0 h1 hK
  cases A with
  | some a =>
   exact ⟨a, _, _, rfl, h0, h1, _, hK, by
    have := RV.pval (Γ := Γ) (k := 0) hd (show n.toNat < xs.length by omega)
    simpa using this⟩
  | none =>
   exfalso
   obtain ⟨A', c', e, hc, ha, hl, hcells⟩ := hd.slice_inv
   injection e with e1 _ _
   subst e1
   have := ha (by omega)
   simp at this
 unfold rowPtr at h
 split at h
 ·rename_i sz' xs
  obtain ⟨rfl, h0, h1, hK⟩ := h
  obtain ⟨A, c, rfl, _⟩ := (hv.of_d).slice_inv
  exact val xs A c hv.of_d h0 h1 hK
 ·obtain ⟨rfl, h0, h1, hK⟩ := h
  cases hv with
  | svalf hd => exact val _ _ _ hd h0 h1 hK
 ·split at h
  ·rename_i id _ _ sz' xs ho
   obtain ⟨rfl, h0, h1, hK⟩ := h
   cases hv with
   | sfull hs hA =>
    rename_i s A
    obtain ⟨_, hz, hlen, hcap, hl, hro⟩ := obj_at hS hs ho rfl
    rcases hro with ⟨hn, hc0⟩ | ⟨b, c, hb, _⟩
    ·omega
    ·refine ⟨⟨b, 0, none⟩, s.len, s.cap, by rw [hA b hb], h0, by omega, _, hK, ?_⟩
     have := RV.parr (w := w) (F := F) (i := n.toNat) (k := 0) hs hb
     rw [add_plain, Nat.zero_add, ← hz]
     simpa using this
  ·exact h.elim
 ·split at h
  ·rename_i id lo m _ _ sz' xs ho
   obtain ⟨rfl, h0, h1, h2, hK⟩ := h
   cases hv with
   | spart hs hn ha =>
    rename_i c s A
    obtain ⟨_, hz, hlen, hcap, hl, hro⟩ := obj_at hS hs ho rfl
    obtain ⟨b, hb, rfl⟩ := ha.1 (by omega)
    refine ⟨_, _, _, rfl, h0, h1, _, hK, ?_⟩
    have := RV.parr (w := w) (F := F) (i := lo + n.toNat) (k := 0) hs hb
    rw [add_plain, ← hz]
    simpa [Nat.add_mul] using this
  ·exact h.elim
 ·exact h.elim
def aidx (E : Env) (T : TypeId) (H : List AObj) (x i : AV) (K : AV → Prop) : Prop := match kd E T, i with
 | some (.slice e), .d (.int _ n) => (match esz E e with
  | some sz => rowPtr H sz x n K
  | none => False)
 | some (.array m e), .d (.int _ n) => (match esz E e with
  | some sz => 0 ≤ n ∧ n < m ∧ (match x with
   | .pvar id k => K (.pvar id (k + n.toNat * sz))
   | .parr id i k => K (.parr id i (k + n.toNat * sz))
   | .pval sz' xs i k => K (.pval sz' xs i (k + n.toNat * sz))
   | _ => False)
  | none => False)
 | _, _ => False
theorem aidx_ok (hE : EnvOk E) (hS : SR E w F Γ H) {T : TypeId} {x i : AV} {K : AV → Prop} (h : aidx E T H x i K) {a b : Value} (hx : RV w F Γ x a) (hi : RV w F Γ i b) :
  ∃ v av, (Instr.indexAt T a b).run E.P w = .ok v w ∧ K av ∧ RV w F Γ av v := by
 unfold aidx at h
 split at h
 ·rename_i e k n hk
  obtain ⟨d, hf, hr⟩ := kd_some hE hk
  simp only [Kd.fits] at hf
  subst hf
  obtain rfl := RD_int hi.of_d
  split at h
  ·rename_i sz hsz
   obtain ⟨a', m, c, rfl, h0, h1, av, hK, hav⟩ := rowPtr_ok hS h hx
   exact ⟨_, av, by simp [Instr.indexAt, asIntOf, hr, h0, h1, esz_ok hE hsz], hK, hav⟩
  ·exact h.elim
 ·rename_i m e k n hk
  obtain ⟨d, hf, hr⟩ := kd_some hE hk
  simp only [Kd.fits] at hf
  subst hf
  obtain rfl := RD_int hi.of_d
  split at h
  ·rename_i sz hsz
   obtain ⟨h0, h1, h⟩ := h
   split at h
   ·cases hx with
    | pvar hs hb =>
     refine ⟨_, _, by simp [Instr.indexAt, asIntOf, hr, h0, h1, esz_ok hE hsz, Instr.sureAddr]; rfl, h, ?_⟩
     rw [add_plain]
     exact .pvar hs hb
   ·cases hx with
    | parr hs hb =>
     refine ⟨_, _, by simp [Instr.indexAt, asIntOf, hr, h0, h1, esz_ok hE hsz, Instr.sureAddr]; rfl, h, ?_⟩
     rw [add_plain, Nat.add_assoc]
     exact .parr hs hb
   ·cases hx with
    | pval hd hi' =>
     refine ⟨_, _, by simp [Instr.indexAt, asIntOf, hr, h0, h1, esz_ok hE hsz, Instr.sureAddr]; rfl, h, ?_⟩
     rw [Addr.add_add, Nat.add_assoc]
     exact .pval hd hi'
   ·exact h.elim
  ·exact h.elim
 ·exact h.elim
def fld (E : Env) (T : TypeId) (f : Nat) : Option (Nat × TypeId) := match kd E T with
 | some (.struct fl) => fl[f]?
 | _ => none
def afldAddr (E : Env) (T : TypeId) (x : AV) (f : Nat) (K : AV → Prop) : Prop := match fld E T f with
 | some (off, t) => match esz E t with
  | some sz => sz ≠ 0 ∧ (match x with
   | .pvar id k => K (.pvar id (k + off))
   | .parr id i k => K (.parr id i (k + off))
   | .pval sz' xs i k => K (.pval sz' xs i (k + off))
   | _ => False)
  | none => False
 | none => False
theorem fld_some (hE : EnvOk E) {T : TypeId} {f : Nat} {off : Nat} {t : TypeId} (h : fld E T f = some (off, t)) :
  ∃ fs fl, (∀ w, (underlying T).run E.P w = .ok (.struct fs) w) ∧ fs[f]? = some fl ∧ fl.offset = off ∧ fl.type = t := by
 unfold fld at h
 split at h
 ·rename_i l hk
  obtain ⟨d, hf, hr⟩ := kd_some hE hk
  obtain ⟨fs, rfl, rfl⟩ := hf
  rw [List.getElem?_map] at h
  cases hfl : fs.toList[f]? with
  | none => simp [hfl] at h
  | some fl =>
   simp [hfl] at h
   exact ⟨fs, fl, hr, by simpa using hfl, h.1, h.2⟩
 ·simp at h
theorem afldAddr_ok (hE : EnvOk E) {T : TypeId} {f : Nat} {x : AV} {K : AV → Prop} (h : afldAddr E T x f K) {a : Value} (hx : RV w F Γ x a) :
  ∃ v av, (Instr.fieldAt T a f).run E.P w = .ok v w ∧ K av ∧ RV w F Γ av v := by
 unfold afldAddr at h
 split at h
 ·rename_i off t hfl
  obtain ⟨fs, fl, hr, hf, rfl, rfl⟩ := fld_some hE hfl
  split at h
  ·rename_i sz hsz
   obtain ⟨h0, h⟩ := h
   split at h
   ·cases hx with
    | pvar hs hb =>
     refine ⟨_, _, by simp [Instr.fieldAt, hr, hf, Instr.sureAddr, fieldPlace, esz_ok hE hsz, h0]; rfl, h, ?_⟩
     rw [add_plain]
     exact .pvar hs hb
   ·cases hx with
    | parr hs hb =>
     refine ⟨_, _, by simp [Instr.fieldAt, hr, hf, Instr.sureAddr, fieldPlace, esz_ok hE hsz, h0]; rfl, h, ?_⟩
     rw [add_plain, Nat.add_assoc]
     exact .parr hs hb
   ·cases hx with
    | pval hd hi' =>
     refine ⟨_, _, by simp [Instr.fieldAt, hr, hf, Instr.sureAddr, fieldPlace, esz_ok hE hsz, h0]; rfl, h, ?_⟩
     rw [Addr.add_add, Nat.add_assoc]
     exact .pval hd hi'
   ·exact h.elim
  ·exact h.elim
 ·exact h.elim
def apart (E : Env) (t : TypeId) (cs : List AV) (off : Nat) (K : AV → Prop) : Prop := match ldK E t with
 | some none => match cs[off]? with
  | some av => K av
  | none => False
 | some (some n) => off + n ≤ cs.length ∧ K (mkAgg ((cs.drop off).take n))
 | none => False
theorem apart_ok (hE : EnvOk E) {t : TypeId} {cs : List AV} {off : Nat} {K : AV → Prop} (h : apart E t cs off K) {vs : Array Value} (hs : vs.size = cs.length) (h1 : ∀ j, j < vs.size → (vs.getD j undef).oneCell' = true)
  (hr : ∀ j d, cs[j]? = some d → RV w F Γ d (vs.getD j undef)) : ∃ v av, (part t vs off).run E.P w = .ok v w ∧ K av ∧ RV w F Γ av v := by
 unfold apart at h
 split at h
 ·rename_i hT
  split at h
  ·rename_i av hk
   obtain ⟨hlt, _⟩ := List.getElem?_eq_some_iff.1 hk
   have := getD_of (c := vs) (k := off) (by omega)
   exact ⟨_, _, by simp only [part, Sem.run_bind, run_agg_none hE hT, Result.andThen_ok, Bool.false_eq_true, if_false, this]; rfl, h, hr _ _ hk⟩
  ·exact h.elim
 ·rename_i n hT
  obtain ⟨hkn, hK⟩ := h
  refine ⟨_, _, by simp [part, (run_agg_some hE hT w).1, (run_agg_some hE hT w).2]; rfl, hK, ?_⟩
  refine mkAgg_ok _ _ (by simp; omega) (fun j hj => ?_) ?_
  ·have hjn : j < n := by simp at hj; omega
   have := h1 (off + j) (by omega)
   rw [Array.getD_eq_getD_getElem?, Array.getElem?_extract, if_pos (by omega)]
   rwa [Array.getD_eq_getD_getElem?] at this
  intro j d hj
  rw [List.getElem?_take] at hj
  split at hj
  ·rename_i hjn
   rw [List.getElem?_drop] at hj
   have := hr _ _ hj
   rw [Array.getD_eq_getD_getElem?, Array.getElem?_extract, if_pos (by omega)]
   rwa [Array.getD_eq_getD_getElem?] at this
  ·simp at hj
 ·exact h.elim
def afld (E : Env) (T : TypeId) (x : AV) (f : Nat) (K : AV → Prop) : Prop := match fld E T f with
 | some (off, t) => (match x with
  | .agg cs => apart E t cs off K
  | .d (.agg ds) => apart E t (ds.map .d) off K
  | _ => False)
 | none => False
theorem afld_ok (hE : EnvOk E) {T : TypeId} {f : Nat} {x : AV} {K : AV → Prop} (h : afld E T x f K) {a : Value} (hx : RV w F Γ x a) :
  ∃ v av, (Instr.field T a f).run E.P w = .ok v w ∧ K av ∧ RV w F Γ av v := by
 unfold afld at h
 split at h
 ·rename_i off t hfl
  obtain ⟨fs, fl, hr, hf, rfl, rfl⟩ := fld_some hE hfl
  split at h
  ·cases hx with
   | agg cs vs hs h1 hrr =>
    obtain ⟨v, av, h2, h3⟩ := apart_ok hE h hs h1 hrr
    exact ⟨v, av, by simp [Instr.field, hr, hf, asAgg, h2], h3⟩
  ·have hd := hx.of_d
   rename_i ds
   cases hd with
   | agg _ vs hs h1 hrr =>
    obtain ⟨v, av, h2, h3⟩ := apart_ok (Γ := Γ) (w := w) (F := F) (vs := vs) hE h (by simpa using hs) h1
     (fun j d hj => by
      rw [List.getElem?_map] at hj
      cases hx : ds[j]? with
      | none => simp [hx] at hj
      | some x => simp [hx] at hj; subst hj; exact .d (hrr j x hx))
    exact ⟨v, av, by simp [Instr.field, hr, hf, asAgg, h2], h3⟩
  ·exact h.elim
 ·exact h.elim
def aext (x : AV) (i : Nat) (K : AV → Prop) : Prop := match x with
 | .tup vs => match vs[i]? with
  | some v => K v
  | none => False
 | .d (.tup ds) => match ds[i]? with
  | some v => K (.d v)
  | none => False
 | _ => False
theorem aext_ok {x : AV} {i : Nat} {K : AV → Prop} (h : aext x i K) {a : Value} (hx : RV w F Γ x a) (P : Program) :
  ∃ v av, (Instr.extract a i).run P w = .ok v w ∧ K av ∧ RV w F Γ av v := by
 unfold aext at h
 split at h
 ·split at h
  ·rename_i v hk
   cases hx with
   | tup cs vs hs hr =>
    obtain ⟨hlt, _⟩ := List.getElem?_eq_some_iff.1 hk
    have := getD_of (c := vs) (k := i) (by omega)
    exact ⟨_, _, by simp only [Instr.extract, this]; rfl, h, hr _ _ hk⟩
  ·exact h.elim
 ·split at h
  ·rename_i v hk
   have hd := hx.of_d
   cases hd with
   | tup cs vs hs hr =>
    obtain ⟨hlt, _⟩ := List.getElem?_eq_some_iff.1 hk
    have := getD_of (c := vs) (k := i) (by omega)
    exact ⟨_, _, by simp only [Instr.extract, this]; rfl, h, .d (hr _ _ hk)⟩
  ·exact h.elim
 ·exact h.elim
/-! ### Slicing -/
def optI (d : Int) : Option AV → Option Int
 | none => some d
 | some (.d (.int _ n)) => some n
 | some _ => none
def OV (w : World) (F : Nat → Prop) (Γ : List Slot) (a : Option AV) (v : Option Value) : Prop := match a, v with
 | none, none => True
 | some a, some v => RV w F Γ a v
 | _, _ => False
theorem optI_ok {d n : Int} {a : Option AV} {v : Option Value} (h : optI d a = some n) (hv : OV w F Γ a v) : (v = none ∧ n = d) ∨ ∃ k, v = some (.int k n) := by
 cases a with
 | none => cases v with
  | none => simp [optI] at h; exact .inl ⟨rfl, h.symm⟩
  | some v => exact hv.elim
 | some a => cases v with
  | none => exact hv.elim
  | some v =>
   have hv' : RV w F Γ a v := hv
   cases hv' with
   | d hd => cases hd <;> simp [optI] at h; subst h; exact .inr ⟨_, rfl⟩
   | _ => simp [optI] at h
theorem run_sliceBound {P : Program} {k : IntKind} {n : Int} {y : Nat} {code : BoundsCode} (h0 : 0 ≤ n) (h1 : n ≤ y) : (Instr.sliceBound (.int k n) y code).run P w = .ok n.toNat w := by
 simp [Instr.sliceBound, asIntOf, h0, h1]
theorem run_sliceBounds {P : Program} {len cap : Nat} {lo hi : Option Value} {l h : Int} (hl : (lo = none ∧ l = 0) ∨ ∃ k, lo = some (.int k l)) (hh : (hi = none ∧ h = len) ∨ ∃ k, hi = some (.int k h))
  (h0 : 0 ≤ l) (h1 : l ≤ h) (h2 : h ≤ cap) : (Instr.sliceBounds true len cap lo hi none).run P w = .ok (l.toNat, h.toNat, cap) w := by
 rcases hl with ⟨rfl, rfl⟩ | ⟨k, rfl⟩ <;> rcases hh with ⟨rfl, rfl⟩ | ⟨k', rfl⟩
 ·simp [Instr.sliceBounds]
 ·simp [Instr.sliceBounds, run_sliceBound (show 0 ≤ h by omega) h2]
 ·simp [Instr.sliceBounds, run_sliceBound h0 h1]
 ·have h3 : l ≤ (h.toNat : Int) := by omega
  simp [Instr.sliceBounds, run_sliceBound (show 0 ≤ h by omega) h2, run_sliceBound h0 h3]
theorem run_sliceBounds3 {P : Program} {len cap : Nat} {lo : Option Value} {k' k'' : IntKind} {l h m : Int} (hl : (lo = none ∧ l = 0) ∨ ∃ k, lo = some (.int k l))
  (h0 : 0 ≤ l) (h1 : l ≤ h) (h2 : h ≤ m) (h3 : m ≤ cap) : (Instr.sliceBounds true len cap lo (some (.int k' h)) (some (.int k'' m))).run P w = .ok (l.toNat, h.toNat, m.toNat) w := by
 have e1 : h ≤ (m.toNat : Int) := by omega
 have e2 : l ≤ (h.toNat : Int) := by omega
 rcases hl with ⟨rfl, rfl⟩ | ⟨k, rfl⟩
 ·simp [Instr.sliceBounds, run_sliceBound (show 0 ≤ m by omega) h3, run_sliceBound (show 0 ≤ h by omega) e1]
 ·simp [Instr.sliceBounds, run_sliceBound (show 0 ≤ m by omega) h3, run_sliceBound (show 0 ≤ h by omega) e1, run_sliceBound h0 e2]
theorem RD.sub {sz : Nat} {xs : List (List D)} {A : Option Addr} {c : Nat} (h : RD w F (.slice sz xs) (.slice A xs.length c)) {l k c' : Nat} {A' : Option Addr} (h1 : l ≤ k) (h2 : k ≤ xs.length) (hc' : k - l ≤ c')
  (hA' : l < k → A' = A.map (·.add (l * sz))) : RD w F (.slice sz ((xs.take k).drop l)) (.slice A' (k - l) c') := by
 generalize hn : xs.length = n at h
 cases h with
 | slice sz xs A c f hc ha hl hm hr =>
  have hlen : ((xs.take k).drop l).length = k - l := by simp; omega
  have hget : ∀ i, ((xs.take k).drop l)[i]? = if i < k - l then xs[i + l]? else none := fun i => by
   rw [List.getElem?_drop, List.getElem?_take]
   split <;> split <;> first | rfl | omega | (rw [Nat.add_comm])
  have := RD.slice (w := w) (F := F) sz ((xs.take k).drop l) A' c' (fun i j => f (i + l) j) (by rw [hlen]; exact hc')
   (fun h0 => by
    rw [hlen] at h0
    rw [hA' (by omega)]
    have := ha (by omega)
    simpa using this)
   (fun x hx => hl x (List.mem_of_mem_take (List.mem_of_mem_drop hx)))
   (fun i x j d hx hd => by
    rw [hget] at hx
    split at hx
    ·rename_i hi
     obtain ⟨h0, a, ha', hb, hcell⟩ := hm _ _ _ _ hx hd
     refine ⟨h0, a.add (l * sz), by rw [hA' (by omega), ha']; rfl, by rw [add_block]; exact hb, ?_⟩
     rw [Addr.add_add, ← Nat.add_assoc, ← Nat.add_mul, Nat.add_comm l i]
     exact hcell
    ·simp at hx)
   (fun i x j d hx hd => by
    rw [hget] at hx
    split at hx
    ·exact hr _ _ _ _ hx hd
    ·simp at hx)
  rw [hlen] at this
  exact this
def aslice (E : Env) (T : TypeId) (H : List AObj) (x : AV) (lo hi mx : Option AV) (K : AV → Prop) : Prop := match kd E T with
 | some (.slice e) => match esz E e with
  | none => False
  | some sz => match mx with
   | none => match x with
    | .d (.slice sz' xs) => (match optI 0 lo, optI xs.length hi with
     | some l, some h => sz' = sz ∧ 0 ≤ l ∧ l ≤ h ∧ h ≤ xs.length ∧ K (.d (.slice sz' ((xs.take h.toNat).drop l.toNat)))
     | _, _ => False)
    | .svalf sz' xs => (match optI 0 lo, optI xs.length hi with
     | some l, some h => sz' = sz ∧ 0 ≤ l ∧ l ≤ h ∧ h ≤ xs.length ∧ K (.d (.slice sz' ((xs.take h.toNat).drop l.toNat)))
     | _, _ => False)
    | .d .nils => (match optI 0 lo, optI 0 hi with
     | some l, some h => l = 0 ∧ h = 0 ∧ K (.d .nils)
     | _, _ => False)
    | .sfull id => (match H.getD id .none with
     | .arr _ sz' xs => (match optI 0 lo, optI xs.length hi with
      | some l, some h => sz' = sz ∧ 0 ≤ l ∧ l ≤ h ∧ h ≤ xs.length ∧ K (.spart id l.toNat (h - l).toNat)
      | _, _ => False)
     | _ => False)
    | .spart id lo' n => (match H.getD id .none with
     | .arr _ sz' xs => (match optI 0 lo, optI n hi with
      | some l, some h => sz' = sz ∧ 0 ≤ l ∧ l ≤ h ∧ h ≤ n ∧ K (.spart id (lo' + l.toNat) (h - l).toNat)
      | _, _ => False)
     | _ => False)
    | _ => False
   | some (.d (.int _ m)) => match hi, x with
    | some (.d (.int _ h)), .d (.slice sz' xs) => (match optI 0 lo with
     | some l => sz' = sz ∧ m = h ∧ 0 ≤ l ∧ l ≤ h ∧ h ≤ xs.length ∧ K (.svalf sz' ((xs.take h.toNat).drop l.toNat))
     | none => False)
    | some (.d (.int _ h)), .svalf sz' xs => (match optI 0 lo with
     | some l => sz' = sz ∧ m = h ∧ 0 ≤ l ∧ l ≤ h ∧ h ≤ xs.length ∧ K (.svalf sz' ((xs.take h.toNat).drop l.toNat))
     | none => False)
    | some (.d (.int _ h)), .d .nils => (match optI 0 lo with
     | some l => m = h ∧ l = 0 ∧ h = 0 ∧ K (.d .nils)
     | none => False)
    | _, _ => False
   | _ => False
 | _ => False
theorem toNat_sub' {l h : Int} (h0 : 0 ≤ l) : h.toNat - l.toNat = (h - l).toNat := by omega
theorem aslice_val (hE : EnvOk E) {T e : TypeId} {sz : Nat} (hr : ∀ w, (underlying T).run E.P w = .ok (.slice e) w) (hsz : esz E e = some sz) {xs : List (List D)} {A : Option Addr} {c : Nat}
  (hd : RD w F (.slice sz xs) (.slice A xs.length c)) {lo hi : Option Value} {l h : Int} (hl : (lo = none ∧ l = 0) ∨ ∃ k, lo = some (.int k l))
  (hh : (hi = none ∧ h = xs.length) ∨ ∃ k, hi = some (.int k h)) (h0 : 0 ≤ l) (h1 : l ≤ h) (h2 : h ≤ xs.length) :
  ∃ v, (Instr.sliceAt T (.slice A xs.length c) lo hi none).run E.P w = .ok v w ∧ RV w F Γ (.d (.slice sz ((xs.take h.toNat).drop l.toNat))) v := by
 have hc : xs.length ≤ c := by
  obtain ⟨A', c', e', hc, _⟩ := hd.slice_inv
  injection e' with _ _ e3
  omega
 have hb := run_sliceBounds (w := w) (P := E.P) hl hh h0 h1 (show h ≤ (c : Int) by omega)
 refine ⟨_, by simp [Instr.sliceAt, Instr.slice, hr, hb, esz_ok hE hsz]; rfl, .d ?_⟩
 exact hd.sub (by omega) (by omega) (by omega) (fun hlt => by rw [if_neg (by omega)])
theorem aslice_ok (hE : EnvOk E) (hS : SR E w F Γ H) {T : TypeId} {x : AV} {lo hi mx : Option AV} {K : AV → Prop} (h : aslice E T H x lo hi mx K) {v : Value} {lv hv mv : Option Value}
  (hx : RV w F Γ x v) (hlo : OV w F Γ lo lv) (hhi : OV w F Γ hi hv) (hmx : OV w F Γ mx mv) :
  ∃ u av, (Instr.sliceAt T v lv hv mv).run E.P w = .ok u w ∧ K av ∧ RV w F Γ av u := by
 unfold aslice at h
 split at h <;> try exact h.elim
 rename_i e hk
 obtain ⟨d, hf, hr⟩ := kd_some hE hk
 simp only [Kd.fits] at hf
 subst hf
 split at h <;> try exact h.elim
 rename_i sz hsz
 split at h
 ·-- two bounds
  have hmv : mv = none := by cases mv with
   | none => rfl
   | some m => exact hmx.elim
  subst hmv
  split at h
  ·rename_i sz' xs
   split at h <;> try exact h.elim
   rename_i l hh e1 e2
   obtain ⟨rfl, h0, h1, h2, hK⟩ := h
   have hd := hx.of_d
   obtain ⟨A, c, rfl, _⟩ := hd.slice_inv
   obtain ⟨u, hu, hru⟩ := aslice_val hE hr hsz hd (optI_ok e1 hlo) (optI_ok e2 hhi) h0 h1 h2
   exact ⟨u, _, hu, hK, hru⟩
  ·rename_i sz' xs
   split at h <;> try exact h.elim
   rename_i l hh e1 e2
   obtain ⟨rfl, h0, h1, h2, hK⟩ := h
   cases hx with
   | svalf hd =>
    obtain ⟨u, hu, hru⟩ := aslice_val hE hr hsz hd (optI_ok e1 hlo) (optI_ok e2 hhi) h0 h1 h2
    exact ⟨u, _, hu, hK, hru⟩
  ·split at h <;> try exact h.elim
   rename_i l hh e1 e2
   obtain ⟨rfl, rfl, hK⟩ := h
   have hd := hx.of_d
   cases hd with
   | nils =>
    have hb := run_sliceBounds (w := w) (P := E.P) (len := 0) (cap := 0) (optI_ok e1 hlo) (optI_ok e2 hhi) (Int.le_refl 0) (Int.le_refl 0) (by simp)
    exact ⟨_, _, by simp [Instr.sliceAt, Instr.slice, hr, hb, esz_ok hE hsz], hK, .d .nils⟩
  ·split at h <;> try exact h.elim
   rename_i id _ _ sz' xs ho
   split at h <;> try exact h.elim
   rename_i l hh e1 e2
   obtain ⟨rfl, h0, h1, h2, hK⟩ := h
   cases hx with
   | sfull hs hA =>
    rename_i s A
    obtain ⟨_, hz, hlen, hcap, hl, hro⟩ := obj_at hS hs ho rfl
    have hb := run_sliceBounds (w := w) (P := E.P) (len := s.len) (cap := s.cap) (optI_ok e1 hlo) (by rw [hlen]; exact optI_ok e2 hhi) h0 h1 (by omega)
    refine ⟨_, _, by simp [Instr.sliceAt, Instr.slice, hr, hb, esz_ok hE hsz]; rfl, hK, ?_⟩
    rw [toNat_sub' h0]
    refine .spart hs (by omega) ⟨fun hn => ?_, fun hl0 => ⟨by omega, fun b hb' => ?_⟩⟩
    ·rcases hro with ⟨hn', hc0⟩ | ⟨b, c, hb', _⟩
     ·omega
     ·refine ⟨b, hb', ?_⟩
      rw [hA b hb', if_neg (by omega)]
      simp [add_plain, hz]
    ·rw [hA b hb']
     split
     ·rfl
     ·simp [add_plain, hl0]
  ·split at h <;> try exact h.elim
   rename_i id lo' n _ _ sz' xs ho
   split at h <;> try exact h.elim
   rename_i l hh e1 e2
   obtain ⟨rfl, h0, h1, h2, hK⟩ := h
   cases hx with
   | spart hs hn ha =>
    rename_i c s A
    obtain ⟨_, hz, hlen, hcap, hl, hro⟩ := obj_at hS hs ho rfl
    have hb := run_sliceBounds (w := w) (P := E.P) (len := n) (cap := c) (optI_ok e1 hlo) (optI_ok e2 hhi) h0 h1 (by omega)
    refine ⟨_, _, by simp [Instr.sliceAt, Instr.slice, hr, hb, esz_ok hE hsz]; rfl, hK, ?_⟩
    rw [toNat_sub' h0]
    refine .spart hs (by omega) ⟨fun hn' => ?_, fun hl0 => ⟨by have := (ha.2 (by omega)).1; omega, fun b hb' => ?_⟩⟩
    ·obtain ⟨b, hb', rfl⟩ := ha.1 (by omega)
     refine ⟨b, hb', ?_⟩
     rw [if_neg (by omega)]
     simp [add_plain, hz, Nat.add_mul]
    ·have hl1 : l.toNat = 0 := by omega
     rw [(ha.2 (by omega)).2 b hb']
     split
     ·rfl
     ·simp [add_plain, hl1]
  ·exact h.elim
 ·-- three bounds
  rename_i k3 m
  have hmv : ∃ k, mv = some (.int k m) := by
   rcases optI_ok (d := 0) (n := m) rfl hmx with ⟨hm, _⟩ | hm
   ·subst hm; exact hmx.elim
   ·exact hm
  obtain ⟨km, rfl⟩ := hmv
  split at h
  ·rename_i k4 hh sz' xs
   split at h <;> try exact h.elim
   rename_i l e1
   obtain ⟨rfl, rfl, h0, h1, h2, hK⟩ := h
   have hhv : ∃ k, hv = some (.int k m) := by
    rcases optI_ok (d := 0) (n := m) rfl hhi with ⟨hm, _⟩ | hm
    ·subst hm; exact hhi.elim
    ·exact hm
   obtain ⟨kh, rfl⟩ := hhv
   have hd := hx.of_d
   obtain ⟨A, c, rfl, hc, _⟩ := hd.slice_inv
   have hb := run_sliceBounds3 (w := w) (P := E.P) (len := xs.length) (cap := c) (k' := kh) (k'' := km) (optI_ok e1 hlo) h0 h1 (Int.le_refl m) (by omega)
   refine ⟨_, _, by simp [Instr.sliceAt, Instr.slice, hr, hb, esz_ok hE hsz]; rfl, hK, ?_⟩
   have hlen : ((xs.take m.toNat).drop l.toNat).length = m.toNat - l.toNat := by simp; omega
   have hsub := hd.sub (c' := m.toNat - l.toNat) (A' := if m.toNat = l.toNat then A else A.map (·.add (l.toNat * sz'))) (show l.toNat ≤ m.toNat by omega) (show m.toNat ≤ xs.length by omega) (Nat.le_refl _)
    (fun hlt => by rw [if_neg (by omega)])
   rw [← hlen] at hsub ⊢
   exact .svalf hsub
  ·rename_i k4 hh sz' xs
   split at h <;> try exact h.elim
   rename_i l e1
   obtain ⟨rfl, rfl, h0, h1, h2, hK⟩ := h
   have hhv : ∃ k, hv = some (.int k m) := by
    rcases optI_ok (d := 0) (n := m) rfl hhi with ⟨hm, _⟩ | hm
    ·subst hm; exact hhi.elim
    ·exact hm
   obtain ⟨kh, rfl⟩ := hhv
   cases hx with
   | svalf hd =>
    rename_i A
    have hb := run_sliceBounds3 (w := w) (P := E.P) (len := xs.length) (cap := xs.length) (k' := kh) (k'' := km) (optI_ok e1 hlo) h0 h1 (Int.le_refl m) (by omega)
    refine ⟨_, _, by simp [Instr.sliceAt, Instr.slice, hr, hb, esz_ok hE hsz]; rfl, hK, ?_⟩
    have hlen : ((xs.take m.toNat).drop l.toNat).length = m.toNat - l.toNat := by simp; omega
    have hsub := hd.sub (c' := m.toNat - l.toNat) (A' := if m.toNat = l.toNat then A else A.map (·.add (l.toNat * sz'))) (show l.toNat ≤ m.toNat by omega) (show m.toNat ≤ xs.length by omega) (Nat.le_refl _)
     (fun hlt => by rw [if_neg (by omega)])
    rw [← hlen] at hsub ⊢
    exact .svalf hsub
  ·rename_i k4 hh
   split at h <;> try exact h.elim
   rename_i l e1
   obtain ⟨rfl, rfl, rfl, hK⟩ := h
   have hhv : ∃ k, hv = some (.int k 0) := by
    rcases optI_ok (d := 0) (n := 0) rfl hhi with ⟨hm, _⟩ | hm
    ·subst hm; exact hhi.elim
    ·exact hm
   obtain ⟨kh, rfl⟩ := hhv
   have hd := hx.of_d
   cases hd with
   | nils =>
    have hb := run_sliceBounds3 (w := w) (P := E.P) (len := 0) (cap := 0) (k' := kh) (k'' := km) (optI_ok e1 hlo) (Int.le_refl 0) (Int.le_refl 0) (Int.le_refl 0) (by simp)
    exact ⟨_, _, by simp [Instr.sliceAt, Instr.slice, hr, hb, esz_ok hE hsz], hK, .d .nils⟩
  ·exact h.elim
 ·exact h.elim
end
end Go.Abs
end
section
set_option autoImplicit false
set_option linter.unusedVariables false
set_option linter.unusedSimpArgs false
namespace Go.Abs
def dget (es : List (D × D)) (k : D) : Option D := (es.find? fun p => dkeq k p.1).map (·.2)
def dput (es : List (D × D)) (k v : D) : List (D × D) := match es.findIdx? (fun p => dkeq k p.1) with
 | some i => es.set i (k, v)
 | none => es ++ [(k, v)]
def ddel (es : List (D × D)) (k : D) : List (D × D) := match es.findIdx? (fun p => dkeq k p.1) with
 | some i => es.eraseIdx i
 | none => es
def zeroV (E : Env) (t : TypeId) : Option D := match E.ty t with
 | some i => some i.zv
 | none => none
def lookRes (ok : Bool) (z : D) (r : Option D) : AV := match ok with
 | true => .d (.tup [r.getD z, .bool r.isSome])
 | false => .d (r.getD z)
def alook (E : Env) (T : TypeId) (H : List AObj) (x k : AV) (ok : Bool) (K : AV → Prop) : Prop := match kd E T with
 | some (.map kt e) => (match E.key kt, zeroV E e, k with
  | some g, some z, .d kd => g kd = true ∧ (match x with
   | .d .nilm => K (lookRes ok z none)
   | .mapo id => (match H.getD id .none with
    | .map es => (∀ p ∈ es, g p.1 = true) ∧ K (lookRes ok z (dget es kd))
    | _ => False)
   | _ => False)
  | _, _, _ => False)
 | _ => False
section
variable {E : Env} {w : World} {F : Nat → Prop} {Γ : List Slot} {H : List AObj}
theorem zeroV_ok (hE : EnvOk E) {t : TypeId} {z : D} (h : zeroV E t = some z) : ∃ v, (∀ w, (zeroValue t).run E.P w = .ok v w) ∧ ∀ w F, RD w F z v := by
 unfold zeroV at h
 cases hi : E.ty t with
 | none => simp [hi] at h
 | some i =>
  simp [hi] at h
  subst h
  obtain ⟨inf, v, h1, h2, h3, h4, h5, h6, h7, h8⟩ := hE.info t i hi
  exact ⟨v, fun w => by simp [zeroValue, typeInfo, h1, h4], h8⟩
theorem lookRes_ok {ok : Bool} {z d : D} {r : Option D} {v : Value} (h : RD w F (r.getD z) v) :
  RV w F Γ (lookRes ok z r) (if ok then .tuple #[v, .bool r.isSome] else v) := by
 cases ok with
 | true =>
  refine .d (.tup _ _ rfl fun j d hj => ?_)
  match j with
  | 0 => simp at hj; subst hj; simpa using h
  | 1 => simp at hj; subst hj; exact .bool _
  | j + 2 => simp at hj
 | false => exact .d h
def RE (w : World) (F : Nat → Prop) (es : List (D × D)) (arr : Array MapEntry) (clock : Nat) : Prop :=
 arr.size = es.length ∧
   (∀ (i : Nat) k v, es[i]? = some (k, v) → ∃ me : MapEntry, arr[i]? = some me ∧ RD w F k me.key ∧ RD w F v me.val ∧ me.born < clock) ∧
   (∀ (i j : Nat) (mi mj : MapEntry), arr[i]? = some mi → arr[j]? = some mj → mi.born = mj.born → i = j)
theorem findIdx_map {α β : Type} (f : α → β) (p : β → Bool) : ∀ l : List α, (l.map f).findIdx? p = l.findIdx? fun a => p (f a)
 | [] => rfl
 | a :: l => by simp [List.findIdx?_cons, findIdx_map f p l]
theorem re_find (hE : EnvOk E) {kt : TypeId} {g : D → Bool} (hg : E.key kt = some g) {es : List (D × D)} {arr : Array MapEntry} {clock : Nat} (hR : RE w F es arr clock)
  {k : D} {v : Value} (hk : g k = true) (hv : RD w F k v) (hes : ∀ p ∈ es, g p.1 = true) :
  (Instr.findKey kt v arr.toList).run E.P w = .ok ((es.findIdx? fun p => dkeq k p.1).map fun i => (i, (arr.toList.getD i default).val)) w := by
 have := (hE.key kt g hg).find w F k v (es.map (·.1)) arr.toList hk hv (by simp [hR.1]) (fun i d hd => by
  rw [List.getElem?_map] at hd
  cases hi : es[i]? with
  | none => simp [hi] at hd
  | some p =>
   obtain ⟨a, b⟩ := p
   simp [hi] at hd
   subst hd
   obtain ⟨me, m1, m2, _⟩ := hR.2.1 i a b hi
   exact ⟨hes _ (List.mem_of_getElem? hi), me, by rw [Array.getElem?_toList]; exact m1, m2⟩)
 rw [findIdx_map] at this
 exact this
theorem run_getMap {P : Program} {r : Nat} {es : Array MapEntry} {clock : Nat} (hb : w.heap[r]? = some (.map es clock)) : (getObj r).run P w = .ok (.map es clock) w := MapKept.run_getObj_map hb
theorem find_idx {α : Type} (p : α → Bool) : ∀ (l : List α), (match l.findIdx? p with | some i => l[i]? | none => none) = l.find? p
 | [] => rfl
 | a :: l => by
  rw [List.findIdx?_cons, List.find?_cons]
  cases h : p a with
  | true => rfl
  | false =>
   rw [← find_idx p l]
   cases hh : l.findIdx? p <;> simp
theorem alook_ok (hE : EnvOk E) (hS : SR E w F Γ H) {T : TypeId} {x k : AV} {ok : Bool} {K : AV → Prop} (h : alook E T H x k ok K) {xv kv : Value} (hx : RV w F Γ x xv) (hk : RV w F Γ k kv) :
  ∃ v av, (Instr.lookup T xv kv ok).run E.P w = .ok v w ∧ K av ∧ RV w F Γ av v := by
 unfold alook at h
 split at h <;> try exact h.elim
 rename_i kt e hkd
 obtain ⟨d, hf, hr⟩ := kd_some hE hkd
 simp only [Kd.fits] at hf
 subst hf
 split at h <;> try exact h.elim
 rename_i g z kd hg hz
 obtain ⟨hgk, h⟩ := h
 obtain ⟨zv, hz1, hz2⟩ := zeroV_ok hE hz
 have hkd := hk.of_d
 split at h
 ·-- nil
  have hv := hx.of_d
  cases hv with
  | nilm =>
   have hfind := (hE.key kt g hg).find w F kd kv [] [] hgk hkd rfl (fun i d hd => by simp at hd)
   refine ⟨_, _, ?_, h, lookRes_ok (d := .nilp) (r := none) (hz2 w F)⟩
   simp [Instr.lookup, hr, (hE.key kt g hg).chk w F kd kv true hgk hkd, hfind, hz1]
 ·rename_i id
  split at h <;> try exact h.elim
  rename_i es ho
  obtain ⟨hes, h⟩ := h
  cases hx with
  | mapo hs hb =>
   rename_i s b
   obtain ⟨ho', b', arr, clock, hb', hh, hR⟩ := obj_at hS hs ho rfl
   obtain rfl : b' = b := by rw [hb] at hb'; exact (Option.some.inj hb').symm
   have hfind := re_find hE hg (w := w) (F := F) hR hgk hkd hes
   have hget := find_idx (fun p : D × D => dkeq kd p.1) es
   have hchk := fun e => (hE.key kt g hg).chk w F kd kv e hgk hkd
   cases hi : es.findIdx? (fun p => dkeq kd p.1) with
   | none =>
    rw [hi] at hfind hget
    have hd : dget es kd = none := by unfold dget; rw [← hget]; rfl
    refine ⟨_, _, ?_, h, lookRes_ok (d := .nilp) (v := zv) (by rw [hd]; exact hz2 w F)⟩
    simp [Instr.lookup, hr, run_getMap hh, hchk, hfind, hz1, hd]
   | some i =>
    rw [hi] at hfind hget
    have hlt : i < es.length := by
     rw [List.findIdx?_eq_some_iff_getElem] at hi
     exact hi.1
    have hgi : es[i]? = some es[i] := List.getElem?_eq_getElem hlt
    have hd : dget es kd = some es[i].2 := by unfold dget; rw [← hget]; simp [hgi]
    obtain ⟨me, m1, m2, m3, m4⟩ := hR.2.1 i es[i].1 es[i].2 hgi
    refine ⟨_, _, ?_, h, lookRes_ok (d := .nilp) (v := me.val) (by rw [hd]; exact m3)⟩
    have hme : (arr.toList.getD i default) = me := by rw [List.getD_eq_getElem?_getD, Array.getElem?_toList, m1]; rfl
    simp only [Option.map_some] at hfind
    rw [hme] at hfind
    simp [Instr.lookup, hr, run_getMap hh, hchk, hfind, hd]
 ·exact h.elim
/-! ### Key types -/
def isIntK (k : IntKind) : D → Bool
 | .int k' _ => k' == k
 | _ => false
theorem keyLaw_of {P : Program} {t : TypeId} {desc : TypeDesc} (hu : P.underlying t = some desc) {g : D → Bool} (hg : ∀ w F d v, g d = true → RD w F d v → MapKept.IsKey desc v)
  (hs : ∀ w F d d' v v', g d = true → g d' = true → RD w F d v → RD w F d' v' → (dkeq d d' = true ↔ v' = v)) : KeyLaw P t g where
 chk w F k v e hk hv := MapKept.run_checkKey hu (hg w F k v hk hv) e 9999
 find w F k v ks es hk hv hl hks := by
  have hkey := hg w F k v hk hv
  have hall : ∀ x ∈ es, MapKept.IsKey desc x.key := fun x hx => by
   obtain ⟨i, hi⟩ := List.mem_iff_getElem?.1 hx
   have hlt : i < ks.length := by rw [hl]; exact (List.getElem?_eq_some_iff.1 hi).1
   obtain ⟨h1, e, h2, h3⟩ := hks i ks[i] (List.getElem?_eq_getElem hlt)
   rw [hi] at h2
   obtain rfl := Option.some.inj h2
   exact hg w F _ _ h1 h3
  have first : ∀ (es : List MapEntry) (ks : List D) (n : Nat), ks.length = es.length → (∀ (i : Nat) d, ks[i]? = some d → g d = true ∧ ∃ e, es[i]? = some e ∧ RD w F d e.key) →
    Instr.findNow desc v es n = some ((ks.findIdx? (dkeq k)).map fun i => (i + n, (es.getD i default).val)) := by
   intro es
   induction es with
   | nil => intro ks n hl _; cases ks with
    | nil => rfl
    | cons _ _ => simp at hl
   | cons e es ih =>
    intro ks n hl hks
    cases ks with
    | nil => simp at hl
    | cons d ks =>
     obtain ⟨h1, e', h2, h3⟩ := hks 0 d rfl
     simp at h2
     subst h2
     obtain ⟨r, hr1, hr2⟩ := MapKept.sameNow_of_keys hkey (hg w F d e.key h1 h3)
     have hiff := hs w F k d v e.key hk h1 hv h3
     cases hd : dkeq k d with
     | true =>
      have hr : r = true := hr2.2 (hiff.1 hd).symm
      subst hr
      simp [Instr.findNow, hr1, List.findIdx?_cons, hd]
     | false =>
      have hr : r = false := by
       cases r with
       | false => rfl
       | true => exact absurd (hiff.2 (hr2.1 rfl).symm) (by simp [hd])
      subst hr
      have := ih ks (n + 1) (by simpa using hl) (fun i d hi => by simpa using hks (i + 1) d (by simpa using hi))
      simp only [Instr.findNow, hr1, this, List.findIdx?_cons, hd]
      cases ks.findIdx? (dkeq k) <;> simp; omega
  have := first es ks 0 hl hks
  simpa using MapKept.run_findKey hu this
 stay w F k d v u hk hd hkd hv hu' := by
  have := (hs w F k d v u hk hd hv hu').1 hkd
  subst this
  exact MapKept.run_keyThatStays (hg w F _ _ hk hv)
theorem intKey {P : Program} {t : TypeId} {k : IntKind} (hu : P.underlying t = some (.int k)) : KeyLaw P t (isIntK k) :=
 keyLaw_of hu (fun w F d v hd hv => by
  cases hv <;> simp [isIntK] at hd
  subst hd
  rfl) (fun w F d d' v v' hd hd' hv hv' => by
  cases hv <;> simp [isIntK] at hd
  cases hv' <;> simp [isIntK] at hd'
  subst hd hd'
  simp only [dkeq, skeq, beq_self_eq_true, Bool.true_and, beq_iff_eq, Value.int.injEq, true_and]
  exact eq_comm)
end
end Go.Abs
end
section
set_option autoImplicit false
set_option linter.unusedVariables false
set_option linter.unusedSimpArgs false
namespace Go.Abs
def splice {α : Type} (cells : List α) (off : Nat) (vs : List α) : List α := cells.take off ++ vs ++ cells.drop (off + vs.length)
theorem splice_length {α : Type} (cells : List α) (off : Nat) (vs : List α) (h : off + vs.length ≤ cells.length) : (splice cells off vs).length = cells.length := by
 simp [splice]; omega
theorem splice_get {α : Type} (cells : List α) (off : Nat) (vs : List α) (h : off + vs.length ≤ cells.length) (k : Nat) :
  (splice cells off vs)[k]? = if off ≤ k ∧ k < off + vs.length then vs[k - off]? else cells[k]? := by
 unfold splice
 rw [List.append_assoc, List.getElem?_append]
 simp only [List.length_take, Nat.min_eq_left (show off ≤ cells.length by omega)]
 by_cases h1 : k < off
 ·rw [if_pos h1, if_neg (by omega), List.getElem?_take, if_pos h1]
 ·rw [if_neg h1, List.getElem?_append]
  by_cases h2 : k < off + vs.length
  ·rw [if_pos (by omega), if_pos ⟨by omega, h2⟩]
  ·rw [if_neg (by omega), if_neg (by omega), List.getElem?_drop]
   congr 1; omega
def afill (place : Nat → Option (Nat × Nat)) (cells : List AV) : List (Nat × AV) → Option (List AV)
 | [] => some cells
 | (i, v) :: rest => match place i, v.cells with
  | some (off, size), some vs => if vs.length = size ∧ off + size ≤ cells.length then afill place (splice cells off vs) rest else none
  | _, _ => none
def CV (w : World) (F : Nat → Prop) (Γ : List Slot) (cs : List AV) (vs : Array Value) : Prop :=
 vs.size = cs.length ∧ (∀ j, j < vs.size → (vs.getD j undef).oneCell' = true) ∧ ∀ j d, cs[j]? = some d → RV w F Γ d (vs.getD j undef)
theorem foldl_put (off : Nat) : ∀ (l : List Value) (j0 : Nat) (cells : Array Value), off + j0 + l.length ≤ cells.size →
  ((l.zipIdx j0).foldl (fun cs (p : Value × Nat) => cs.setIfInBounds (off + p.2) p.1) cells).size = cells.size ∧
  ∀ k, ((l.zipIdx j0).foldl (fun cs (p : Value × Nat) => cs.setIfInBounds (off + p.2) p.1) cells).getD k undef =
   if off + j0 ≤ k ∧ k < off + j0 + l.length then l.getD (k - (off + j0)) undef else cells.getD k undef
 | [], j0, cells, h => by
  refine ⟨rfl, fun k => ?_⟩
  simp only [List.zipIdx_nil, List.foldl_nil, List.length_nil]
  rw [if_neg (by omega)]
 | v :: l, j0, cells, h => by
  simp only [List.zipIdx_cons, List.foldl_cons, List.length_cons] at h ⊢
  obtain ⟨h1, h2⟩ := foldl_put off l (j0 + 1) (cells.setIfInBounds (off + j0) v) (by simp; omega)
  refine ⟨by rw [h1]; simp, fun k => ?_⟩
  rw [h2 k]
  by_cases hk : k = off + j0
  ·subst hk
   rw [if_neg (by omega), if_pos (by omega), getD_set_self _ _ _ (by omega)]
   simp
  ·by_cases hk2 : off + (j0 + 1) ≤ k ∧ k < off + (j0 + 1) + l.length
   ·rw [if_pos hk2, if_pos (by omega)]
    obtain ⟨m, hm⟩ : ∃ m, k - (off + j0) = m + 1 := ⟨k - (off + j0) - 1, by omega⟩
    rw [hm, List.getD_cons_succ]
    congr 1; omega
   ·rw [if_neg hk2, if_neg (by omega), getD_set_ne _ _ _ _ (Ne.symm hk)]
section
variable {E : Env} {w : World} {F : Nat → Prop} {Γ : List Slot} {H : List AObj}
def PV (w : World) (F : Nat → Prop) (Γ : List Slot) : List (Nat × AV) → List (Nat × Value) → Prop
 | [], [] => True
 | (i, a) :: r, (j, v) :: s => i = j ∧ RV w F Γ a v ∧ PV w F Γ r s
 | _, _ => False
theorem fill_ok (place : Nat → Option (Nat × Nat)) : ∀ (ps : List (Nat × AV)) (qs : List (Nat × Value)) (cs : List AV) (vs : Array Value) (out : List AV), PV w F Γ ps qs → CV w F Γ cs vs →
  afill place cs ps = some out → ∃ vs', Instr.fill place vs qs = some vs' ∧ CV w F Γ out vs'
 | [], [], cs, vs, out, _, hc, h => by simp [afill] at h; subst h; exact ⟨vs, rfl, hc⟩
 | [], _ :: _, cs, vs, out, hp, hc, h => hp.elim
 | _ :: _, [], cs, vs, out, hp, hc, h => by obtain ⟨i, a⟩ := ‹Nat × AV›; exact hp.elim
 | (i, a) :: ps, (j, v) :: qs, cs, vs, out, hp, hc, h => by
  obtain ⟨rfl, hv, hp⟩ := hp
  simp only [afill] at h
  split at h
  ·rename_i off size us hpl hus
   split at h
   ·rename_i hcond
    obtain ⟨h1, h2⟩ := hcond
    obtain ⟨hs, hone, hr⟩ := cells_ok hv hus
    obtain ⟨hcs, hcone, hcr⟩ := hc
    have hsz : v.cells.size = size := by omega
    have hle : off + v.cells.toList.length ≤ vs.size := by simp; omega
    obtain ⟨hf1, hf2⟩ := foldl_put off v.cells.toList 0 vs (by simpa using hle)
    have key : Instr.fill place vs ((i, v) :: qs) = Instr.fill place ((v.cells.toList.zipIdx 0).foldl (fun cs (p : Value × Nat) => cs.setIfInBounds (off + p.2) p.1) vs) qs := by
     simp only [Instr.fill, hpl]
     rw [if_neg (by simp [hsz]; omega)]
     congr 1
     rw [← Array.foldl_toList, Array.toList_zipIdx]
    rw [key]
    refine fill_ok place ps qs (splice cs off us) _ out hp ⟨?_, ?_, ?_⟩ h
    ·rw [hf1, splice_length _ _ _ (by omega)]; exact hcs
    ·intro k hk
     rw [hf1] at hk
     rw [hf2 k]
     by_cases hkk : off + 0 ≤ k ∧ k < off + 0 + v.cells.toList.length
     ·rw [if_pos hkk]
      have := hone (k - off) (by simp at hkk; omega)
      rw [List.getD_eq_getElem?_getD, Array.getElem?_toList]
      rw [Array.getD_eq_getD_getElem?] at this
      simpa using this
     ·rw [if_neg hkk]
      exact hcone k hk
    ·intro k d hk
     rw [splice_get _ _ _ (by omega)] at hk
     rw [hf2 k]
     have hlen : v.cells.toList.length = us.length := by simpa using hs
     split at hk
     ·rename_i hkk
      rw [if_pos (by omega)]
      have := hr _ _ hk
      rw [List.getD_eq_getElem?_getD, Array.getElem?_toList]
      rw [Array.getD_eq_getD_getElem?] at this
      simpa using this
     ·rename_i hkk
      rw [if_neg (by omega)]
      exact hcr _ _ hk
   ·simp at h
  ·simp at h
def aplace (E : Env) (T : TypeId) (i : Nat) : Option (Nat × Nat) := match kd E T with
 | some (.struct fl) => match fl[i]? with
  | some (off, t) => match esz E t with
   | some sz => some (off, sz)
   | none => none
  | none => none
 | some (.array _ e) => match esz E e with
  | some sz => some (i * sz, sz)
  | none => none
 | _ => none
def zeroC (E : Env) (T : TypeId) : Option (List AV) := match E.ty T with
 | some i => some (i.zero.map .d)
 | none => none
def abuild (E : Env) (T : TypeId) (ps : List (Nat × AV)) (K : AV → Prop) : Prop := match zeroC E T with
 | some z => match afill (aplace E T) z ps with
  | some cs => K (mkAgg cs)
  | none => False
 | none => False
theorem zeroC_ok (hE : EnvOk E) {T : TypeId} {z : List AV} (h : zeroC E T = some z) : ∃ v, (∀ w, (zeroValue T).run E.P w = .ok v w) ∧ ∀ w F Γ, CV w F Γ z v.cells := by
 unfold zeroC at h
 cases hi : E.ty T with
 | none => simp [hi] at h
 | some i =>
  simp [hi] at h
  subst h
  obtain ⟨inf, v, h1, h2, h3, h4, h5, h6, h7, _⟩ := hE.info T i hi
  refine ⟨v, fun w => by simp [zeroValue, typeInfo, h1, h4], fun w F Γ => ⟨by simp [h5], fun j hj => ?_, fun j d hj => ?_⟩⟩
  ·have hj' : j < i.zero.length := by omega
   exact (h7 j _ (List.getElem?_eq_getElem hj')).1
  ·rw [List.getElem?_map] at hj
   cases hx : i.zero[j]? with
   | none => simp [hx] at hj
   | some x => simp [hx] at hj; subst hj; exact .d ((h7 j x hx).2 w F)
def known (E : Env) (T : TypeId) : Bool := match kd E T with
 | some (.struct fl) => fl.all fun p => (esz E p.2).isSome
 | some (.array _ e) => (esz E e).isSome
 | _ => false
theorem esz_info (hE : EnvOk E) {t : TypeId} {n : Nat} (h : esz E t = some n) : ∃ i, E.P.info? t = some i ∧ i.size = n := by
 unfold esz at h
 cases hi : E.ty t with
 | none => simp [hi] at h
 | some i =>
  simp [hi] at h
  obtain ⟨inf, v, h1, h2, _⟩ := hE.info t i hi
  exact ⟨inf, h1, by omega⟩
theorem places_ok (hE : EnvOk E) : ∀ (fs : List Field), (fs.map (fun f => (f.offset, f.type))).all (fun p => (esz E p.2).isSome) = true →
  fs.mapM (fun f => (E.P.info? f.type).map fun i => (f.offset, i.size)) = some (fs.map fun f => (f.offset, (esz E f.type).getD 0))
 | [], _ => rfl
 | f :: fs, h => by
  simp only [List.map_cons, List.all_cons, Bool.and_eq_true] at h
  obtain ⟨n, hn⟩ := Option.isSome_iff_exists.1 h.1
  obtain ⟨i, hi, hs⟩ := esz_info hE hn
  simp [List.mapM_cons, hi, places_ok hE fs h.2, hn, hs]
theorem abuild_ok (hE : EnvOk E) {T : TypeId} (hk : known E T = true) {ps : List (Nat × AV)} {qs : Array (Nat × Value)} {K : AV → Prop} (h : abuild E T ps K) (hp : PV w F Γ ps qs.toList) :
  ∃ v av, (Instr.build T qs).run E.P w = .ok v w ∧ K av ∧ RV w F Γ av v := by
 unfold abuild at h
 split at h <;> try exact h.elim
 rename_i z hz
 split at h <;> try exact h.elim
 rename_i cs hcs
 obtain ⟨zv, hzv, hcv⟩ := zeroC_ok hE hz
 obtain ⟨vs', hfill, hcv'⟩ := fill_ok (aplace E T) ps qs.toList z zv.cells cs hp (hcv w F Γ) hcs
 refine ⟨.agg vs', mkAgg cs, ?_, h, mkAgg_ok cs vs' hcv'.1 hcv'.2.1 hcv'.2.2⟩
 unfold known at hk
 split at hk
 ·rename_i fl hkd
  obtain ⟨d, hf, hr⟩ := kd_some hE hkd
  obtain ⟨fs, rfl, rfl⟩ := hf
  have hpl := run_places (P := E.P) w fs.toList _ (places_ok hE fs.toList hk)
  have e : (fun x => (fs.toList.map fun f => (f.offset, (esz E f.type).getD 0)).toArray[x]?) = aplace E T := by
   funext x
   simp only [aplace, hkd, List.getElem?_toArray, List.getElem?_map]
   cases hx : fs.toList[x]? with
   | none => simp
   | some fl =>
    simp only [Option.map_some]
    have := List.all_eq_true.1 hk (fl.offset, fl.type) (List.mem_map.2 ⟨fl, List.mem_of_getElem? hx, rfl⟩)
    obtain ⟨n, hn⟩ := Option.isSome_iff_exists.1 this
    simp [hn]
  rw [← e] at hfill
  simp [Instr.build, hzv, hr, Array.mapM_eq_mapM_toList, hpl]
  simp at hfill
  simp [hfill]
 ·rename_i m e hkd
  obtain ⟨d, hf, hr⟩ := kd_some hE hkd
  simp only [Kd.fits] at hf
  subst hf
  obtain ⟨n, hn⟩ := Option.isSome_iff_exists.1 hk
  have e' : (fun i => some (i * n, n)) = aplace E T := by
   funext i
   simp [aplace, hkd, hn]
  rw [← e'] at hfill
  simp [Instr.build, hzv, hr, esz_ok hE hn, hfill]
 ·simp at hk
/-! ### The operations that change nothing -/
def apureCall (E : Env) (c : Call) (ρ : Operand → AV) (H : List AObj) (K : AV → Prop) : Prop := match c.callee with
 | .builtin .len => match c.args.toList, c.argTypes.toList with
  | x :: _, T :: _ => alen E T H (ρ x) K
  | _, _ => False
 | .builtin .max => (match c.args.toList.map ρ with
  | [.d (.int k a), .d (.int _ b)] => K (.d (.int k (max a b)))
  | _ => False)
 | .builtin .min => (match c.args.toList.map ρ with
  | [.d (.int k a), .d (.int _ b)] => K (.d (.int k (min a b)))
  | _ => False)
 | .builtin .cap => (match c.args.toList.map ρ, c.argTypes.toList with
  | [.d .nils], [T] => (match kd E T with
   | some (.slice _) => K (.d (.int .i64 0))
   | _ => False)
  | _, _ => False)
 | _ => False
def apure (E : Env) (o : Op) (ρ : Operand → AV) (H : List AObj) (K : AV → Prop) : Prop := match o with
 | .move x => K (ρ x)
 | .assign x => K (ρ x)
 | .pick c a b => (match ρ c with
  | .d (.bool p) => Br p (K (ρ a)) (K (ρ b))
  | _ => False)
 | .load t a => aload E t H K (ρ a)
 | .nilCheck x => anil (ρ x) K
 | .binOp op T x y _ => abin E op T (isC x || isC y) (ρ x) (ρ y) K
 | .unOp op _ x => aun op (ρ x) K
 | .convert s d x => aconv E s d (ρ x) K
 | .makeInterface T x => (match kd E T with
  | some .iface => False
  | some _ => K (mkIface T (ρ x))
  | none => False)
 | .makeFunc (.func f) first caps => first.toList = [] ∧ K (mkFunc f (caps.toList.map ρ))
 | .slice t x lo hi mx => aslice E t H (ρ x) (lo.map ρ) (hi.map ρ) (mx.map ρ) K
 | .fieldAddr s x f => afldAddr E s (ρ x) f K
 | .field s x f => afld E s (ρ x) f K
 | .indexAddr t x i => aidx E t H (ρ x) (ρ i) K
 | .extract x i => aext (ρ x) i K
 | .build T parts => known E T = true ∧ abuild E T (parts.toList.map fun (i, x) => (i, ρ x)) K
 | .lookup T x i ok => alook E T H (ρ x) (ρ i) ok K
 | .call c => apureCall E c ρ H K
 | _ => False
theorem OV_map {ρ : Operand → AV} {η : Operand → Value} (hη : ∀ x, RV w F Γ (ρ x) (η x)) (o : Option Operand) : OV w F Γ (o.map ρ) (o.map η) := by
 cases o with
 | none => trivial
 | some x => exact hη x
theorem PV_map {ρ : Operand → AV} {η : Operand → Value} (hη : ∀ x, RV w F Γ (ρ x) (η x)) : ∀ (l : List (Nat × Operand)), PV w F Γ (l.map fun (i, x) => (i, ρ x)) (l.map fun (i, x) => (i, η x))
 | [] => trivial
 | (i, x) :: l => ⟨rfl, hη x, PV_map hη l⟩
theorem apure_ok (hE : EnvOk E) (hS : SR E w F Γ H) {o : Oper} {ρ : Operand → AV} {K : AV → Prop} (h : apure E o.op ρ H K) {η : Operand → Value} (hη : ∀ x, RV w F Γ (ρ x) (η x)) :
  ∃ v av, (execOp η o).run E.P w = .ok (.value v) w ∧ K av ∧ RV w F Γ av v := by
 have lift : ∀ (m : Sem Value), (∃ v av, m.run E.P w = .ok v w ∧ K av ∧ RV w F Γ av v) → ∃ v av, ((do pure (.value (← m)) : Sem Next)).run E.P w = .ok (.value v) w ∧ K av ∧ RV w F Γ av v := by
  rintro m ⟨v, av, h1, h2⟩
  exact ⟨v, av, by simp [h1], h2⟩
 obtain ⟨dst, op, ty, pos, after, guard⟩ := o
 simp only at h
 unfold apure at h
 split at h <;> simp only [execOp]
 ·exact ⟨_, _, rfl, h, hη _⟩
 ·exact ⟨_, _, rfl, h, hη _⟩
 ·rename_i c a b
  split at h
  ·rename_i p hp
   have hc := hη c
   rw [hp] at hc
   have hc' := RD_bool hc.of_d
   cases p with
   | true => exact ⟨_, _, by simp [hc', asBool], h.1 rfl, hη a⟩
   | false => exact ⟨_, _, by simp [hc', asBool], h.2 rfl, hη b⟩
  ·exact h.elim
 ·exact lift _ (aload_ok hE hS h (hη _))
 ·rename_i x
  have hx := hη x
  generalize η x = v at hx ⊢
  unfold anil at h
  split at h <;> try exact h.elim
  ·rename_i hρ; rw [hρ] at hx
   cases hx with
   | pvar hs hb => exact ⟨_, _, rfl, h, .pvar hs hb⟩
  ·rename_i hρ; rw [hρ] at hx
   cases hx with
   | parr hs hb => exact ⟨_, _, rfl, h, .parr hs hb⟩
  ·rename_i hρ; rw [hρ] at hx
   cases hx with
   | pval hd hi => exact ⟨_, _, rfl, h, .pval hd hi⟩
  ·rename_i hρ; rw [hρ] at hx
   cases hx with
   | func f cs vs hs hr => exact ⟨_, _, rfl, h, .func _ _ vs hs hr⟩
  ·rename_i hρ; rw [hρ] at hx
   cases hx with
   | iface t d v hr => exact ⟨_, _, rfl, h, .iface _ _ v hr⟩
  ·rename_i hρ; rw [hρ] at hx
   have hd := hx.of_d
   cases hd with
   | iface t d v hr => exact ⟨_, _, rfl, h, .d (.iface _ _ v hr)⟩
  ·rename_i hρ; rw [hρ] at hx
   have hd := hx.of_d
   cases hd with
   | func f cs vs hs hr => exact ⟨_, _, rfl, h, .d (.func _ _ vs hs hr)⟩
 ·rename_i op T x y yT
  have := abin_ok (w := w) (F := F) (Γ := Γ) hE h (hη x) (hη y)
  exact lift _ this
 ·exact lift _ (aun_ok h (hη _) E.P)
 ·exact lift _ (aconv_ok hE h (hη _))
 ·rename_i T x
  split at h <;> try exact h.elim
  rename_i k hne hk
  obtain ⟨d, hf, hr⟩ := kd_some hE hk
  refine ⟨_, _, ?_, h, mkIface_ok T (hη x)⟩
  have : (Instr.makeInterface T (η x)).run E.P w = .ok (.iface T (η x)) w := by
   simp only [Instr.makeInterface, Sem.run_bind, hr, Result.andThen_ok]
   cases k <;> simp only [Kd.fits] at hf
   all_goals first
    | exact absurd rfl (hne)
    | (subst hf; rfl)
    | (obtain ⟨_, rfl⟩ := hf; rfl)
    | (obtain ⟨_, rfl, _⟩ := hf; rfl)
    | (obtain ⟨_, _, _, rfl⟩ := hf; rfl)
  simp [this]
 ·rename_i f first caps
  obtain ⟨h0, h⟩ := h
  refine ⟨.func (.func f) #[] (caps.map η), _, ?_, h, mkFunc_ok f _ _ (by simp) (fun j d hj => ?_)⟩
  ·have : first.map η = #[] := by
    have : first = #[] := by simpa using h0
    simp [this]
   simp [Instr.makeFunc, this]
  ·rw [List.getElem?_map] at hj
   cases hx : caps.toList[j]? with
   | none => simp [hx] at hj
   | some x =>
    simp [hx] at hj
    subst hj
    have hx' : caps[j]? = some x := by simpa using hx
    rw [Array.getD_eq_getD_getElem?, Array.getElem?_map, hx']
    exact hη x
 ·exact lift _ (aslice_ok hE hS h (hη _) (OV_map hη _) (OV_map hη _) (OV_map hη _))
 ·exact lift _ (afldAddr_ok hE h (hη _))
 ·exact lift _ (afld_ok hE h (hη _))
 ·exact lift _ (aidx_ok hE hS h (hη _) (hη _))
 ·exact lift _ (aext_ok h (hη _) E.P)
 ·rename_i T parts
  refine lift _ (abuild_ok hE h.1 h.2 ?_)
  simpa using PV_map hη parts.toList
 ·exact lift _ (alook_ok hE hS h (hη _) (hη _))
 ·rename_i c
  obtain ⟨callee, args, argTypes⟩ := c
  unfold apureCall at h
  simp only at h
  have two : ∀ {k k' : IntKind} {a b : Int}, args.toList.map ρ = [.d (.int k a), .d (.int k' b)] → args.map η = #[.int k a, .int k' b] := fun {k k' a b} e => by
   match hl : args.toList with
   | [x, y] =>
    rw [hl] at e
    simp at e
    have h0 := hη x
    have h1 := hη y
    rw [e.1] at h0
    rw [e.2] at h1
    have ea : args = #[x, y] := Array.toList_inj.1 hl
    subst ea
    simp [RD_int h0.of_d, RD_int h1.of_d]
   | [] => simp [hl] at e
   | [_] => simp [hl] at e
   | _ :: _ :: _ :: _ => simp [hl] at e
  split at h <;> try exact h.elim
  ·split at h <;> try exact h.elim
   rename_i x xs T Ts hxs hTs
   have h0 : args[0]? = some x := by rw [← Array.getElem?_toList, hxs]; rfl
   have h1 : argTypes[0]? = some T := by rw [← Array.getElem?_toList, hTs]; rfl
   have := alen_ok (T' := ty) hE hS h1 h (as := args.map η) (a := η x) (by simp [h0]) (hη x)
   simp only [resolve, invoke, builtin, pure_bind]
   exact lift _ this
  ·split at h <;> try exact h.elim
   rename_i k a k' b e
   have ea := two e
   simp only [resolve, invoke, builtin, pure_bind, ea]
   refine lift _ ⟨_, _, run_max_int2 _ _ _ _ _ _ _, h, ?_⟩
   have : (if b > a then b else a) = max a b := by split <;> omega
   rw [this]
   exact .d (.int _ _)
  ·split at h <;> try exact h.elim
   rename_i k a k' b e
   have ea := two e
   simp only [resolve, invoke, builtin, pure_bind, ea]
   refine lift _ ⟨_, _, run_min_int2 _ _ _ _ _ _ _, h, ?_⟩
   have : (if b < a then b else a) = min a b := by split <;> omega
   rw [this]
   exact .d (.int _ _)
  ·split at h <;> try exact h.elim
   rename_i T hxs hTs
   split at h <;> try exact h.elim
   rename_i e hk
   obtain ⟨d, hf, hu⟩ := kd_some hE hk
   simp only [Kd.fits] at hf
   subst hf
   have ea : args.map η = #[.slice none 0 0] := by
    match hl : args.toList with
    | [x] =>
     rw [hl] at hxs
     simp at hxs
     have h0 := hη x
     rw [hxs] at h0
     have ea : args = #[x] := Array.toList_inj.1 hl
     subst ea
     have hd := h0.of_d
     generalize hv : η x = v at hd
     cases hd
     simp [hv]
    | [] => simp [hl] at hxs
    | _ :: _ :: _ => simp [hl] at hxs
   have et : argTypes = #[T] := by apply Array.toList_inj.1; rw [hTs]
   subst et
   simp only [resolve, invoke, builtin, pure_bind, ea]
   refine lift _ ⟨_, _, ?_, h, .d (.int .i64 0)⟩
   simp [Builtin.cap_, hu, goInt]
 ·exact h.elim
end
end Go.Abs
end
section
set_option autoImplicit false
set_option linter.unusedVariables false
set_option linter.unusedSimpArgs false
namespace Go.Abs
section
variable {E : Env} {w w' : World} {F F' : Nat → Prop} {Γ Γ' : List Slot} {H H' : List AObj}
theorem RO.mono {s : Slot} {o : AObj} (hF : ∀ b, F b → F' b) (hw : ∀ b, F b → w'.heap[b]? = w.heap[b]?) (hΓ : ∀ (id : Nat) s, Γ[id]? = some s → Γ'[id]? = some s)
  (hb : ∀ b, s.b = some b → o.live = true → w'.heap[b]? = w.heap[b]?) (h : RO w F Γ s o) : RO w' F' Γ' s o := by
 cases o with
 | none => trivial
 | defr =>
  obtain ⟨b, h1, h2⟩ := h
  exact ⟨b, h1, by rw [hb b h1 rfl]; exact h2⟩
 | map es =>
  obtain ⟨b, arr, cl, h1, h2, h3, h4, h5⟩ := h
  exact ⟨b, arr, cl, h1, by rw [hb b h1 rfl]; exact h2, h3, fun i k v hi => by obtain ⟨me, m1, m2, m3, m4⟩ := h4 i k v hi; exact ⟨me, m1, m2.mono hF hw, m3.mono hF hw, m4⟩, h5⟩
 | mapb es bs clk =>
  obtain ⟨b, arr, h1, h2, h3, h4, h5, h6⟩ := h
  exact ⟨b, arr, h1, by rw [hb b h1 rfl]; exact h2, h3, h4, fun i k v hi => by obtain ⟨me, m1, m2, m3, m4⟩ := h5 i k v hi; exact ⟨me, m1, m2.mono hF hw, m3.mono hF hw, m4⟩, h6⟩
 | iter m bs clk idx =>
  obtain ⟨b, mb, sm, seen, h1, h2, h3, h4, h5⟩ := h
  exact ⟨b, mb, sm, seen, h1, hΓ _ _ h2, h3, by rw [hb b h1 rfl]; exact h4, h5⟩
 | loop fn t ps assign body st =>
  obtain ⟨b, l, h1, h2, h3, h4, h5, h6, h7, h8, h9⟩ := h
  exact ⟨b, l, h1, by rw [hb b h1 rfl]; exact h2, h3, h4, h5, h6, h7, h8, fun j av hj => (h9 j av hj).mono hF hw hΓ⟩
 | var cs =>
  obtain ⟨b, c, ty, h1, h2, h3, h4⟩ := h
  exact ⟨b, c, ty, h1, by rw [hb b h1 rfl]; exact h2, h3, fun j av hj => ⟨(h4 j av hj).1, (h4 j av hj).2.mono hF hw hΓ⟩⟩
 | arr ty sz xs =>
  obtain ⟨h1, h2, h3, h4, h5⟩ := h
  refine ⟨h1, h2, h3, h4, ?_⟩
  rcases h5 with h5 | ⟨b, c, h6, h7, h8, h9⟩
  ·exact .inl h5
  ·exact .inr ⟨b, c, h6, by rw [hb b h6 rfl]; exact h7, h8, fun i x j d hx hd => ⟨(h9 i x j d hx hd).1, (h9 i x j d hx hd).2.mono hF hw⟩⟩
theorem heap_new (w : World) (o : Obj) : (w.alloc o).heap[w.heap.size]? = some o := by
 show (w.heap.push o)[w.heap.size]? = some o
 simp
theorem set_get {α : Type} {l : List α} {i j : Nat} {a b : α} (h : (l.set i a)[j]? = some b) : (i = j ∧ b = a ∧ i < l.length) ∨ (i ≠ j ∧ l[j]? = some b) := by
 by_cases hij : i = j
 ·subst hij
  rw [List.getElem?_set] at h
  split at h
  ·rename_i hlt
   split at h
   ·exact .inl ⟨rfl, (Option.some.inj h).symm, by assumption⟩
   ·simp at h
  ·simp at *
 ·rw [List.getElem?_set_ne hij] at h
  exact .inr ⟨hij, h⟩
theorem SR.dead (hS : SR E w F Γ H) (id : Nat) : SR E w F Γ (H.set id .none) where
 len := by simp [hS.len]
 obj j s o hs ho := by
  rcases set_get ho with ⟨_, rfl, _⟩ | ⟨_, ho⟩
  ·trivial
  ·exact hS.obj j s o hs ho
 sep j s o b hs ho hl hb := by
  rcases set_get ho with ⟨_, rfl, _⟩ | ⟨_, ho⟩
  ·simp [AObj.live] at hl
  ·exact hS.sep j s o b hs ho hl hb
 inj i j si sj oi oj b h1 h2 h3 h4 l1 l2 b1 b2 := by
  rcases set_get h3 with ⟨_, rfl, _⟩ | ⟨_, h3⟩
  ·simp [AObj.live] at l1
  rcases set_get h4 with ⟨_, rfl, _⟩ | ⟨_, h4⟩
  ·simp [AObj.live] at l2
  exact hS.inj i j si sj oi oj b h1 h2 h3 h4 l1 l2 b1 b2
 low := hS.low
 glob := hS.glob
theorem live_dead {id b : Nat} (h : LiveB Γ (H.set id .none) b) : LiveB Γ H b := by
 obtain ⟨j, s, o, h1, h2, h3, h4⟩ := h
 rcases set_get h2 with ⟨_, rfl, _⟩ | ⟨_, h2⟩
 ·simp [AObj.live] at h3
 ·exact ⟨j, s, o, h1, h2, h3, h4⟩
theorem SR.world (hS : SR E w F Γ H) (hsz : w.heap.size ≤ w'.heap.size) (h : ∀ b, (F b ∨ LiveB Γ H b) → w'.heap[b]? = w.heap[b]?) : SR E w' F Γ H where
 len := hS.len
 obj j s o hs ho := (hS.obj j s o hs ho).mono (fun _ h => h) (fun b hb => h b (.inl hb)) (fun _ _ h => h) (fun b hb hl => h b (.inr ⟨j, s, o, hs, ho, hl, hb⟩))
 sep := hS.sep
 inj := hS.inj
 low b hb := Nat.lt_of_lt_of_le (hS.low b hb) hsz
 glob g sz xs hg := (hS.glob g sz xs hg).mono (fun _ h => h) (fun b hb => h b (.inl hb)) (fun _ _ h => h)
theorem SR.push (hS : SR E w F Γ H) {s : Slot} {o : AObj} (ho : RO w F (Γ ++ [s]) s o) (hb : ∀ b, s.b = some b → ¬ F b ∧ ¬ LiveB Γ H b) : SR E w F (Γ ++ [s]) (H ++ [o]) := by
 have pre : ∀ (id : Nat) s', Γ[id]? = some s' → (Γ ++ [s])[id]? = some s' := fun id s' h => by
  rw [List.getElem?_append_left (List.getElem?_eq_some_iff.1 h).1]; exact h
 have cases' : ∀ (id : Nat) s' o', (Γ ++ [s])[id]? = some s' → (H ++ [o])[id]? = some o' → (Γ[id]? = some s' ∧ H[id]? = some o') ∨ (id = Γ.length ∧ s' = s ∧ o' = o) := fun id s' o' h1 h2 => by
  rcases Nat.lt_trichotomy id Γ.length with h | h | h
  ·rw [List.getElem?_append_left h] at h1
   rw [List.getElem?_append_left (by rw [← hS.len]; exact h)] at h2
   exact .inl ⟨h1, h2⟩
  ·subst h
   rw [List.getElem?_append_right (Nat.le_refl _)] at h1
   rw [List.getElem?_append_right (by rw [hS.len]; exact Nat.le_refl _)] at h2
   simp [hS.len] at h1 h2
   exact .inr ⟨rfl, h1.symm, h2.symm⟩
  ·rw [List.getElem?_eq_none (by simp; omega)] at h1
   simp at h1
 refine ⟨by simp [hS.len], fun id s' o' h1 h2 => ?_, fun id s' o' b h1 h2 hl h3 => ?_, fun i j si sj oi oj b h1 h2 h3 h4 l1 l2 b1 b2 => ?_, hS.low, hS.glob⟩
 ·rcases cases' id s' o' h1 h2 with ⟨h3, h4⟩ | ⟨_, rfl, rfl⟩
  ·exact (hS.obj id s' o' h3 h4).mono (fun _ h => h) (fun _ _ => rfl) pre (fun _ _ _ => rfl)
  ·exact ho
 ·rcases cases' id s' o' h1 h2 with ⟨h4, h5⟩ | ⟨_, rfl, rfl⟩
  ·exact hS.sep id s' o' b h4 h5 hl h3
  ·exact (hb b h3).1
 ·rcases cases' i si oi h1 h3 with ⟨h5, h6⟩ | ⟨e1, rfl, rfl⟩ <;> rcases cases' j sj oj h2 h4 with ⟨h7, h8⟩ | ⟨e2, rfl, rfl⟩
  ·exact hS.inj i j si sj oi oj b h5 h7 h6 h8 l1 l2 b1 b2
  ·exact absurd ⟨i, si, oi, h5, h6, l1, b1⟩ (hb b b2).2
  ·exact absurd ⟨j, sj, oj, h7, h8, l2, b2⟩ (hb b b1).2
  ·omega
theorem SR.revive (hS : SR E w F Γ H) {id : Nat} {s : Slot} {o : AObj} (hs : Γ[id]? = some s) (ho : RO w F Γ s o) (hb : ∀ b, s.b = some b → ¬ F b ∧ ¬ LiveB Γ (H.set id .none) b) : SR E w F Γ (H.set id o) := by
 have cases' : ∀ (j : Nat) o', (H.set id o)[j]? = some o' → (j = id ∧ o' = o) ∨ (j ≠ id ∧ H[j]? = some o' ∧ (H.set id .none)[j]? = some o') := fun j o' h => by
  rcases set_get h with ⟨rfl, rfl, _⟩ | ⟨hne, h⟩
  ·exact .inl ⟨rfl, rfl⟩
  ·exact .inr ⟨Ne.symm hne, h, by rw [List.getElem?_set_ne hne]; exact h⟩
 refine ⟨by simp [hS.len], fun j s' o' h1 h2 => ?_, fun j s' o' b h1 h2 hl h3 => ?_, fun i j si sj oi oj b h1 h2 h3 h4 l1 l2 b1 b2 => ?_, hS.low, hS.glob⟩
 ·rcases cases' j o' h2 with ⟨rfl, rfl⟩ | ⟨_, h3, _⟩
  ·rw [hs] at h1; obtain rfl := Option.some.inj h1; exact ho
  ·exact hS.obj j s' o' h1 h3
 ·rcases cases' j o' h2 with ⟨rfl, rfl⟩ | ⟨_, h4, _⟩
  ·rw [hs] at h1; obtain rfl := Option.some.inj h1; exact (hb b h3).1
  ·exact hS.sep j s' o' b h1 h4 hl h3
 ·rcases cases' i oi h3 with ⟨rfl, rfl⟩ | ⟨n1, h5, h5'⟩ <;> rcases cases' j oj h4 with ⟨rfl, rfl⟩ | ⟨n2, h6, h6'⟩
  ·rfl
  ·rw [hs] at h1; obtain rfl := Option.some.inj h1
   exact absurd ⟨j, sj, oj, h2, h6', l2, b2⟩ (hb b b1).2
  ·rw [hs] at h2; obtain rfl := Option.some.inj h2
   exact absurd ⟨i, si, oi, h1, h5', l1, b1⟩ (hb b b2).2
  ·exact hS.inj i j si sj oi oj b h1 h2 h5 h6 l1 l2 b1 b2
theorem live_lt (hS : SR E w F Γ H) {b : Nat} (h : LiveB Γ H b) : b < w.heap.size := by
 obtain ⟨id, s, o, h1, h2, h3, h4⟩ := h
 have ho := hS.obj id s o h1 h2
 cases o with
 | none => simp [AObj.live] at h3
 | defr =>
  obtain ⟨b', hb, hh⟩ := ho
  rw [h4] at hb
  obtain rfl := Option.some.inj hb
  exact (Array.getElem?_eq_some_iff.1 hh).1
 | map es =>
  obtain ⟨b', arr, cl, hb, hh, _⟩ := ho
  rw [h4] at hb
  obtain rfl := Option.some.inj hb
  exact (Array.getElem?_eq_some_iff.1 hh).1
 | mapb es bs clk =>
  obtain ⟨b', arr, hb, hh, _⟩ := ho
  rw [h4] at hb
  obtain rfl := Option.some.inj hb
  exact (Array.getElem?_eq_some_iff.1 hh).1
 | iter m bs clk idx =>
  obtain ⟨b', mb, sm, seen, hb, _, _, hh, _⟩ := ho
  rw [h4] at hb
  obtain rfl := Option.some.inj hb
  exact (Array.getElem?_eq_some_iff.1 hh).1
 | loop fn t ps assign body st =>
  obtain ⟨b', l, hb, hh, _⟩ := ho
  rw [h4] at hb
  obtain rfl := Option.some.inj hb
  exact (Array.getElem?_eq_some_iff.1 hh).1
 | var cs =>
  obtain ⟨b', c, ty, hb, hh, _⟩ := ho
  rw [h4] at hb
  obtain rfl := Option.some.inj hb
  exact (Array.getElem?_eq_some_iff.1 hh).1
 | arr ty sz xs =>
  obtain ⟨_, _, _, _, hro⟩ := ho
  rcases hro with ⟨hn, _⟩ | ⟨b', c, hb, hh, _⟩
  ·rw [h4] at hn; simp at hn
  ·rw [h4] at hb
   obtain rfl := Option.some.inj hb
   exact (Array.getElem?_eq_some_iff.1 hh).1
def Out (E : Env) (n0 : Nat) (w : World) (F : Nat → Prop) (Γ : List Slot) (H : List AObj) (v : Value) (w' : World) (K : AV → List AObj → Prop) : Prop :=
 ∃ F' Γ' H' av, SR E w' F' Γ' H' ∧ RV w' F' Γ' av v ∧ K av H' ∧ Ext n0 w F Γ H w' F' Γ' H' ∧ (∀ (id : Nat) s, Γ[id]? = some s → Γ'[id]? = some s)
theorem pre_push (Γ : List Slot) (s : Slot) : ∀ (id : Nat) s', Γ[id]? = some s' → (Γ ++ [s])[id]? = some s' := fun id s' h => by
 rw [List.getElem?_append_left (List.getElem?_eq_some_iff.1 h).1]; exact h
theorem push_get (Γ : List Slot) (s : Slot) : (Γ ++ [s])[Γ.length]? = some s := by simp
theorem live_push {s : Slot} {o : AObj} (hlen : Γ.length = H.length) {b : Nat} (h : LiveB (Γ ++ [s]) (H ++ [o]) b) : LiveB Γ H b ∨ s.b = some b := by
 obtain ⟨id, s', o', h1, h2, h3, h4⟩ := h
 rcases Nat.lt_trichotomy id Γ.length with h | h | h
 ·rw [List.getElem?_append_left h] at h1
  rw [List.getElem?_append_left (by omega)] at h2
  exact .inl ⟨id, s', o', h1, h2, h3, h4⟩
 ·subst h
  simp at h1
  subst h1
  exact .inr h4
 ·rw [List.getElem?_eq_none (by simp; omega)] at h1
  simp at h1
theorem out_new {n0 : Nat} (hS : SR E w F Γ H) (hn : n0 ≤ Γ.length) {w1 : World} (hh : w1.heap = w.heap) (hos : w1.os = w.os) (htape : w1.tape = w.tape) (hout : w1.output = w.output)
  {ob : Obj} {s : Slot} (hs : s.b = some w.heap.size) {H1 : List AObj} (hH1 : H1 = H ∨ ∃ id, H1 = H.set id .none) {o : AObj}
  (ho : RO (w1.alloc ob) F (Γ ++ [s]) s o) {av : AV} {v : Value} (hv : RV (w1.alloc ob) F (Γ ++ [s]) av v) {K : AV → List AObj → Prop} (hK : K av (H1 ++ [o])) :
  Out E n0 w F Γ H v (w1.alloc ob) K := by
 have hS1 : SR E w F Γ H1 := by
  rcases hH1 with rfl | ⟨id, rfl⟩
  ·exact hS
  ·exact hS.dead id
 have hl1 : ∀ b, LiveB Γ H1 b → LiveB Γ H b := fun b hb => by
  rcases hH1 with rfl | ⟨id, rfl⟩
  ·exact hb
  ·exact live_dead hb
 have hsz : (w1.alloc ob).heap.size = w.heap.size + 1 := by rw [World.size_alloc, hh]
 have hold : ∀ b, b < w.heap.size → (w1.alloc ob).heap[b]? = w.heap[b]? := fun b hb => by
  rw [Go.RowKit.Below.heap_alloc _ _ _ (by rw [hh]; exact hb), hh]
 have hSw : SR E (w1.alloc ob) F Γ H1 := hS1.world (by omega) (fun b hb => hold b (by
  rcases hb with hb | hb
  ·exact hS1.low b hb
  ·exact live_lt hS1 hb))
 have hfresh : ∀ b, s.b = some b → ¬ F b ∧ ¬ LiveB Γ H1 b := fun b hb => by
  rw [hs] at hb
  obtain rfl := Option.some.inj hb
  exact ⟨fun h => Nat.lt_irrefl _ (hS1.low _ h), fun h => Nat.lt_irrefl _ (live_lt hS1 h)⟩
 refine ⟨F, Γ ++ [s], H1 ++ [o], av, hSw.push ho hfresh, hv, hK, ⟨hos, htape, hout, by omega, fun b hb _ => hold b hb, fun _ h => h, fun _ h _ => .inl h, fun b hb hlt => ?_, fun id hid => ?_, by simp; omega⟩, pre_push Γ s⟩
 ·rcases live_push hS1.len hb with h | h
  ·exact hl1 b h
  ·rw [hs] at h; obtain rfl := Option.some.inj h; omega
 ·exact List.getElem?_append_left (by omega)
/-! ### Variables -/
theorem out_var {n0 : Nat} (hS : SR E w F Γ H) (hn : n0 ≤ Γ.length) (ty : TypeId) {cs : List AV} {vs : Array Value} (hc : CV w F Γ cs vs) {K : AV → List AObj → Prop} (hK : K (.pvar H.length 0) (H ++ [.var cs])) :
  Out E n0 w F Γ H (.pointer (some ⟨w.heap.size, 0, none⟩)) (w.alloc (.cells vs ty)) K := by
 have hold : ∀ b, b < w.heap.size → (w.alloc (.cells vs ty)).heap[b]? = w.heap[b]? := fun b hb => Go.RowKit.Below.heap_alloc _ _ _ hb
 have hnew : (w.alloc (.cells vs ty)).heap[w.heap.size]? = some (.cells vs ty (0, 0)) := heap_new w _
 refine out_new hS hn rfl rfl rfl rfl (s := ⟨some w.heap.size, 0, 0, 0⟩) rfl (.inl rfl) (o := .var cs) ⟨w.heap.size, vs, ty, rfl, hnew, hc.1, fun j av hj => ?_⟩ (av := .pvar H.length 0) ?_ hK
 ·have hjl := (List.getElem?_eq_some_iff.1 hj).1
  exact ⟨hc.2.1 j (by rw [hc.1]; exact hjl), (hc.2.2 j av hj).mono (fun _ h => h) (fun b hb => hold b (hS.low b hb)) (pre_push Γ _)⟩
 ·rw [← hS.len]
  exact .pvar (push_get Γ _) rfl
theorem run_newVar (P : Program) (t : TypeId) (v : Value) (w : World) : (newVar t v).run P w = .ok ⟨w.heap.size, 0, none⟩ (w.alloc (.cells v.cells t)) := by
 simp [newVar, newRow]
def abox (H : List AObj) (x : AV) (K : AV → List AObj → Prop) : Prop := match x.cells with
 | some cs => K (.pvar H.length 0) (H ++ [.var cs])
 | none => False
theorem abox_ok {n0 : Nat} (hS : SR E w F Γ H) (hn : n0 ≤ Γ.length) {x : AV} {K : AV → List AObj → Prop} (h : abox H x K) {v : Value} (hv : RV w F Γ x v) (ty : TypeId) :
  ∃ u w', (Instr.box ty v).run E.P w = .ok u w' ∧ Out E n0 w F Γ H u w' K := by
 unfold abox at h
 split at h
 ·rename_i cs hcs
  obtain ⟨h1, h2, h3⟩ := cells_ok hv hcs
  exact ⟨_, _, by simp only [Instr.box, Sem.run_bind, run_newVar, Result.andThen_ok]; rfl, out_var hS hn ty ⟨h1, h2, h3⟩ h⟩
 ·exact h.elim
def aalloc (E : Env) (T : TypeId) (H : List AObj) (K : AV → List AObj → Prop) : Prop := match zeroC E T with
 | some z => K (.pvar H.length 0) (H ++ [.var z])
 | none => False
theorem aalloc_ok {n0 : Nat} (hE : EnvOk E) (hS : SR E w F Γ H) (hn : n0 ≤ Γ.length) {T : TypeId} {K : AV → List AObj → Prop} (h : aalloc E T H K) :
  ∃ u w', (Instr.alloc T true (.tuple #[])).run E.P w = .ok u w' ∧ Out E n0 w F Γ H u w' K := by
 unfold aalloc at h
 split at h
 ·rename_i z hz
  obtain ⟨zv, h1, h2⟩ := zeroC_ok hE hz
  exact ⟨_, _, by simp only [Instr.alloc, Sem.run_bind, h1, run_newVar, Result.andThen_ok]; rfl, out_var hS hn T (h2 w F Γ) h⟩
 ·exact h.elim
def updN (xs : List (List D)) (i k : Nat) (ds : List D) : List (List D) := xs.set i (splice (xs.getD i []) k ds)
def astore (E : Env) (T : TypeId) (H : List AObj) (a v : AV) (K : List AObj → Prop) : Prop := match a with
 | .pvar id k => (match H.getD id .none with
  | .var cs => (match v.cells with
   | some vs => esz E T = some vs.length ∧ k + vs.length ≤ cs.length ∧ K (H.set id (.var (splice cs k vs)))
   | none => False)
  | _ => False)
 | .parr id i k => (match H.getD id .none with
  | .arr ty sz xs => (match v with
   | .d x => (match x.cells with
    | some ds => esz E T = some ds.length ∧ i < xs.length ∧ k + ds.length ≤ sz ∧ K (H.set id (.arr ty sz (updN xs i k ds)))
    | none => False)
   | _ => False)
  | _ => False)
 | _ => False
theorem Dcells_ok {x : D} {ds : List D} (h : x.cells = some ds) : (AV.d x).cells = some (ds.map .d) := by simp [AV.cells, h]
theorem run_storeVar (hE : EnvOk E) {T : TypeId} {b k : Nat} {c : Array Value} {ty : TypeId} {v : Value} (hh : w.heap[b]? = some (.cells c ty (0, 0))) (hsz : esz E T = some v.cells.size)
  (hle : k + v.cells.size ≤ c.size) (h1 : ∀ j, j < v.cells.size → (v.cells.getD j undef).oneCell' = true) :
  (storeVar T ⟨b, k, none⟩ v).run E.P w = .ok () (w.setRow b (c.toList.take k ++ v.cells.toList ++ c.toList.drop (k + v.cells.size)).toArray) := by
 have := run_storeCells_at E.P b k ty v.cells.toList 0 c w hh (by simpa using hle) (fun u hu => by
  obtain ⟨j, hj⟩ := List.mem_iff_getElem?.1 hu
  have hjl : j < v.cells.size := by have := (List.getElem?_eq_some_iff.1 hj).1; simpa using this
  have h2 := h1 j hjl
  rw [Array.getElem?_toList] at hj
  rw [Array.getD_eq_getD_getElem?, hj] at h2
  exact h2)
 simp only [storeVar, Sem.run_bind, esz_ok hE hsz, Result.andThen_ok, ne_eq, not_true_eq_false, if_false]
 simpa using this
theorem splice_arr (c : Array Value) (k : Nat) (vs : List Value) (hle : k + vs.length ≤ c.size) :
  (c.toList.take k ++ vs ++ c.toList.drop (k + vs.length)).toArray.size = c.size ∧
  ∀ j, (c.toList.take k ++ vs ++ c.toList.drop (k + vs.length)).toArray.getD j undef = if k ≤ j ∧ j < k + vs.length then vs.getD (j - k) undef else c.getD j undef := by
 have h := splice_get c.toList k vs (by simpa using hle)
 have hl := splice_length c.toList k vs (by simpa using hle)
 unfold splice at h hl
 refine ⟨by simpa using hl, fun j => ?_⟩
 rw [Array.getD_eq_getD_getElem?, List.getElem?_toArray, h j]
 split
 ·rw [List.getD_eq_getElem?_getD]
 ·rw [Array.getD_eq_getD_getElem?, Array.getElem?_toList]
theorem out_put {n0 : Nat} (hS : SR E w F Γ H) (hn : n0 ≤ Γ.length) {id b : Nat} {s : Slot} {o o' : AObj} (hs : Γ[id]? = some s) (ho : H[id]? = some o) (hl : o.live = true) (hb : s.b = some b)
  {c : Array Value} (hro : RO (w.setRow b c) F Γ s o') {K : List AObj → Prop} (hK : K (H.set id o')) : Out E n0 w F Γ H undef (w.setRow b c) (fun _ H' => K H') := by
 have hnotF : ¬ F b := hS.sep id s o b hs ho hl hb
 have hnotL : ¬ LiveB Γ (H.set id .none) b := fun ⟨j, sj, oj, h1, h2, h3, h4⟩ => by
  rcases set_get h2 with ⟨_, rfl, _⟩ | ⟨hne, h2⟩
  ·simp [AObj.live] at h3
  ·exact hne (hS.inj id j s sj o oj b hs h1 ho h2 hl h3 hb h4)
 have hother : ∀ k, k ≠ b → (w.setRow b c).heap[k]? = w.heap[k]? := fun k hk => setRow_other w b k c hk
 have hSw : SR E (w.setRow b c) F Γ (H.set id .none) := (hS.dead id).world (by simp) (fun k hk => hother k (by
  rintro rfl
  rcases hk with hk | hk
  ·exact hnotF hk
  ·exact hnotL hk))
 have hS' : SR E (w.setRow b c) F Γ ((H.set id .none).set id o') := hSw.revive hs hro (fun b' hb' => by
  rw [hb] at hb'
  obtain rfl := Option.some.inj hb'
  exact ⟨hnotF, by rw [List.set_set]; exact hnotL⟩)
 rw [List.set_set] at hS'
 refine ⟨F, Γ, _, .dead, hS', .dead _, hK, ⟨rfl, rfl, rfl, by simp, fun k hk hlive => hother k (fun e => hlive (by subst e; exact ⟨id, s, o, hs, ho, hl, hb⟩)), fun _ h => h, fun _ h _ => .inl h, fun k hk hlt => ?_, fun _ _ => rfl, hn⟩, fun _ _ h => h⟩
 obtain ⟨j, sj, oj, h1, h2, h3, h4⟩ := hk
 rcases set_get h2 with ⟨rfl, rfl, _⟩ | ⟨_, h2⟩
 ·rw [hs] at h1
  obtain rfl := Option.some.inj h1
  exact ⟨id, s, o, hs, ho, hl, h4⟩
 ·exact ⟨j, sj, oj, h1, h2, h3, h4⟩
theorem astore_ok {n0 : Nat} (hE : EnvOk E) (hS : SR E w F Γ H) (hn : n0 ≤ Γ.length) {T : TypeId} {a x : AV} {K : List AObj → Prop} (h : astore E T H a x K) {p v : Value} (ha : RV w F Γ a p) (hv : RV w F Γ x v) :
  ∃ w', (Instr.storeAt T p v).run E.P w = .ok () w' ∧ Out E n0 w F Γ H undef w' (fun _ H' => K H') := by
 unfold astore at h
 split at h
 ·rename_i id k
  split at h <;> try exact h.elim
  rename_i cs ho
  split at h <;> try exact h.elim
  rename_i us hus
  obtain ⟨hsz, hle, hK⟩ := h
  cases ha with
  | pvar hs hb =>
   rename_i s b
   obtain ⟨ho', hro⟩ := obj_at hS hs ho rfl
   obtain ⟨b', c, ty, hb', hh, hcs, hcells⟩ := hro
   obtain rfl : b' = b := by rw [hb] at hb'; exact (Option.some.inj hb').symm
   obtain ⟨h1, h2, h3⟩ := cells_ok hv hus
   have hrun := run_storeVar (w := w) (k := k) (v := v) hE hh (by rw [h1]; exact hsz) (by omega) h2
   refine ⟨_, by simp only [Instr.storeAt, Instr.sureAddr, Sem.run_bind, Sem.run_pure, Result.andThen_ok]; exact hrun, ?_⟩
   have hvl : v.cells.toList.length = v.cells.size := by simp
   obtain ⟨g1, g2⟩ := splice_arr c k v.cells.toList (by omega)
   rw [hvl] at g1 g2
   refine out_put (o' := .var (splice cs k us)) (c := (c.toList.take k ++ v.cells.toList ++ c.toList.drop (k + v.cells.size)).toArray) hS hn hs ho' rfl hb ⟨b', _, ty, hb, setRow_heap w b' c _ ty _ hh, ?_, fun j av hj => ?_⟩ hK
   ·rw [g1, splice_length _ _ _ (by omega)]; exact hcs
   ·have hstay : ∀ b, F b → (w.setRow b' (c.toList.take k ++ v.cells.toList ++ c.toList.drop (k + v.cells.size)).toArray).heap[b]? = w.heap[b]? := fun q hq => setRow_other w b' q _ (by
     rintro rfl; exact hS.sep id s _ q hs ho' rfl hb hq)
    rw [splice_get _ _ _ (by omega)] at hj
    rw [g2 j]
    split at hj
    ·rename_i hkk
     rw [if_pos (by omega)]
     have e : v.cells.toList.getD (j - k) undef = v.cells.getD (j - k) undef := by rw [List.getD_eq_getElem?_getD, Array.getD_eq_getD_getElem?, Array.getElem?_toList]
     rw [e]
     exact ⟨h2 _ (by omega), (h3 _ _ hj).mono (fun _ h => h) hstay (fun _ _ h => h)⟩
    ·rename_i hkk
     rw [if_neg (by omega)]
     exact ⟨(hcells _ _ hj).1, (hcells _ _ hj).2.mono (fun _ h => h) hstay (fun _ _ h => h)⟩
 ·rename_i id i k
  split at h <;> try exact h.elim
  rename_i ty sz xs ho
  split at h <;> try exact h.elim
  rename_i x
  split at h <;> try exact h.elim
  rename_i ds hds
  obtain ⟨hsz, hi, hle, hK⟩ := h
  cases ha with
  | parr hs hb =>
   rename_i s b
   obtain ⟨ho', hz, hlen, hcap, hl, hro⟩ := obj_at hS hs ho rfl
   rcases hro with ⟨hnn, _⟩ | ⟨b', c, hb', hh, hcs, hcells⟩
   ·rw [hnn] at hb; simp at hb
   obtain rfl : b' = b := by rw [hb] at hb'; exact (Option.some.inj hb').symm
   obtain ⟨h1, h2, h3⟩ := cells_ok hv (Dcells_ok hds)
   have h1' : v.cells.size = ds.length := by simpa using h1
   have hin : i * sz + sz ≤ c.size := by
    have h3 : (i + 1) * sz ≤ s.cap * sz := Nat.mul_le_mul_right _ (by omega)
    rw [Nat.succ_mul] at h3
    omega
   rw [hz]
   have hrun := run_storeVar (w := w) (k := i * sz + k) (v := v) hE hh (by rw [h1']; exact hsz) (by omega) h2
   refine ⟨_, by simp only [Instr.storeAt, Instr.sureAddr, Sem.run_bind, Sem.run_pure, Result.andThen_ok]; exact hrun, ?_⟩
   have hvl : v.cells.toList.length = v.cells.size := by simp
   obtain ⟨g1, g2⟩ := splice_arr c (i * sz + k) v.cells.toList (by omega)
   rw [hvl] at g1 g2
   have hxi : xs[i]? = some xs[i] := List.getElem?_eq_getElem hi
   have hxl : xs[i].length = sz := hl _ (List.getElem_mem hi)
   have hgd : xs.getD i [] = xs[i] := by simp [List.getD_eq_getElem?_getD, hxi]
   refine out_put (o' := .arr ty sz (updN xs i k ds)) (c := (c.toList.take (i * sz + k) ++ v.cells.toList ++ c.toList.drop (i * sz + k + v.cells.size)).toArray) hS hn hs ho' rfl hb ⟨hz, by simp [updN, hlen], by simpa [updN] using hcap, fun y hy => ?_, .inr ⟨b', _, hb, setRow_heap w b' c _ ty _ hh, by rw [g1]; exact hcs, fun i' x' j d hx' hd => ?_⟩⟩ hK
   ·obtain ⟨q, hq⟩ := List.mem_iff_getElem?.1 hy
    rcases set_get hq with ⟨_, rfl, _⟩ | ⟨_, hq⟩
    ·rw [splice_length _ _ _ (by rw [hgd, hxl]; omega), hgd, hxl]
    ·exact hl _ (List.mem_of_getElem? hq)
   ·have hstay : ∀ b, F b → (w.setRow b' (c.toList.take (i * sz + k) ++ v.cells.toList ++ c.toList.drop (i * sz + k + v.cells.size)).toArray).heap[b]? = w.heap[b]? := fun q hq => setRow_other w b' q _ (by
     rintro rfl; exact hS.sep id s _ q hs ho' rfl hb hq)
    rw [g2 _]
    rcases set_get hx' with ⟨rfl, rfl, _⟩ | ⟨hne, hx'⟩
    ·rw [hgd, splice_get _ _ _ (by rw [hxl]; omega)] at hd
     split at hd
     ·rename_i hkk
      rw [if_pos (by omega)]
      have e : v.cells.toList.getD (i * sz + j - (i * sz + k)) undef = v.cells.getD (j - k) undef := by
       rw [List.getD_eq_getElem?_getD, Array.getD_eq_getD_getElem?, Array.getElem?_toList, show i * sz + j - (i * sz + k) = j - k by omega]
      rw [e]
      have := h3 (j - k) (.d d) (by rw [List.getElem?_map, hd]; rfl)
      exact ⟨h2 _ (by omega), this.of_d.mono (fun _ h => h) hstay⟩
     ·rename_i hkk
      rw [if_neg (by omega)]
      exact ⟨(hcells i _ j d hxi hd).1, (hcells i _ j d hxi hd).2.mono (fun _ h => h) hstay⟩
    ·have hj : j < sz := by
      have := (List.getElem?_eq_some_iff.1 hd).1
      rwa [hl _ (List.mem_of_getElem? hx')] at this
     rw [if_neg (by
      intro hkk
      have : i = i' := by
       have e1 : (i * sz + (i' * sz + j - i * sz)) = i' * sz + j := by omega
       rcases Nat.lt_trichotomy i i' with h | h | h
       ·have := Nat.mul_le_mul_right sz (Nat.succ_le_of_lt h); rw [Nat.succ_mul] at this; omega
       ·exact h
       ·have := Nat.mul_le_mul_right sz (Nat.succ_le_of_lt h); rw [Nat.succ_mul] at this; omega
      exact hne this)]
     exact ⟨(hcells i' x' j d hx' hd).1, (hcells i' x' j d hx' hd).2.mono (fun _ h => h) hstay⟩
 ·exact h.elim
end
end Go.Abs
end
section
set_option autoImplicit false
set_option linter.unusedVariables false
set_option linter.unusedSimpArgs false
namespace Go.Abs
def room (n bytes : Nat) : Prop := n * bytes ≤ 140737488355328 ∧ n ≤ 9223372036854775807
theorem room_of {n bytes : Nat} (h : n ≤ 1000000000) (hb : bytes ≤ 100000) : room n bytes := by
 refine ⟨?_, by omega⟩
 have := Nat.mul_le_mul h hb
 omega
section
variable {E : Env} {w w' : World} {F F' : Nat → Prop} {Γ Γ' : List Slot} {H H' : List AObj}
theorem kd_under {T : TypeId} {k : Kd} (hE : EnvOk E) (h : kd E T = some k) : ∃ d, E.P.underlying T = some d ∧ k.fits d := by
 unfold kd at h
 cases hi : E.ty T with
 | none => simp [hi] at h
 | some i => simp [hi] at h; subst h; exact hE.desc T i hi
def rep {α : Type} (z : List α) : Nat → List α
 | 0 => []
 | n + 1 => z ++ rep z n
theorem rep_length {α : Type} (z : List α) : ∀ n, (rep z n).length = n * z.length
 | 0 => by simp [rep]
 | n + 1 => by simp [rep, rep_length z n, Nat.succ_mul, Nat.add_comm]
theorem rep_get {α : Type} (z : List α) : ∀ (n k : Nat) (d : α), (rep z n)[k]? = some d → z[k % z.length]? = some d
 | 0, k, d, h => by simp [rep] at h
 | n + 1, k, d, h => by
  simp only [rep, List.getElem?_append] at h
  split at h
  ·rename_i hlt; rwa [Nat.mod_eq_of_lt hlt]
  ·rename_i hge
   have := rep_get z n _ d h
   have hz : 0 < z.length := by
    rcases Nat.eq_zero_or_pos z.length with h0 | h0
    ·have : z = [] := List.eq_nil_of_length_eq_zero h0
     subst this
     simp at *
    ·exact h0
   rwa [← Nat.mod_eq_sub_mod (by omega)] at this
theorem made_get (z : Array Value) (n k : Nat) (h : k < n) : (madeCells z n).getD k undef = z[k % z.size]! := by
 simp [madeCells, Array.getD_eq_getD_getElem?, h]
theorem made_CV {n : Nat} {cs : List AV} {z : Array Value} (hz : CV w F Γ cs z) (hp : 0 < n → 0 < cs.length) : CV w F Γ (rep cs n) (madeCells z (n * cs.length)) := by
 have hk : ∀ k, k < n * cs.length → (madeCells z (n * cs.length)).getD k undef = z.getD (k % cs.length) undef := fun k hk => by
  have hn : 0 < n := by rcases Nat.eq_zero_or_pos n with h | h; (subst h; simp at hk); exact h
  have hlt : k % z.size < z.size := Nat.mod_lt _ (by rw [hz.1]; exact hp hn)
  rw [made_get _ _ _ hk, ← hz.1, Array.getElem!_eq_getD, Array.getD_eq_getD_getElem?, Array.getD_eq_getD_getElem?, Array.getElem?_eq_getElem hlt]
  rfl
 have hmod : ∀ k, k < n * cs.length → k % cs.length < cs.length := fun k hk => by
  have hn : 0 < n := by rcases Nat.eq_zero_or_pos n with h | h; (subst h; simp at hk); exact h
  exact Nat.mod_lt _ (hp hn)
 refine ⟨by rw [size_madeCells, rep_length], fun j hj => ?_, fun j d hj => ?_⟩
 ·rw [size_madeCells] at hj
  rw [hk j hj]
  exact hz.2.1 _ (by rw [hz.1]; exact hmod j hj)
 ·have hjl := (List.getElem?_eq_some_iff.1 hj).1
  rw [rep_length] at hjl
  rw [hk j hjl]
  exact hz.2.2 _ _ (rep_get cs n j d hj)
/-! ### Rows out of a flat list of cells -/
def chunk (sz : Nat) : Nat → List D → List (List D)
 | 0, _ => []
 | n + 1, l => l.take sz :: chunk sz n (l.drop sz)
theorem chunk_length (sz : Nat) : ∀ (n : Nat) (l : List D), (chunk sz n l).length = n
 | 0, _ => rfl
 | n + 1, l => by simp [chunk, chunk_length sz n]
theorem chunk_get (sz : Nat) : ∀ (n : Nat) (l : List D) (i : Nat) (x : List D), l.length = n * sz → (chunk sz n l)[i]? = some x → x.length = sz ∧ ∀ j d, x[j]? = some d → j < sz ∧ l[i * sz + j]? = some d
 | 0, l, i, x, _, h => by simp [chunk] at h
 | n + 1, l, 0, x, hl, h => by
  simp [chunk] at h
  subst h
  rw [Nat.succ_mul] at hl
  refine ⟨by simp; omega, fun j d hj => ?_⟩
  rw [List.getElem?_take] at hj
  split at hj
  ·exact ⟨by assumption, by simpa using hj⟩
  ·simp at hj
 | n + 1, l, i + 1, x, hl, h => by
  simp [chunk] at h
  rw [Nat.succ_mul] at hl
  obtain ⟨h1, h2⟩ := chunk_get sz n (l.drop sz) i x (by simp; omega) h
  refine ⟨h1, fun j d hj => ?_⟩
  obtain ⟨h3, h4⟩ := h2 j d hj
  rw [List.getElem?_drop] at h4
  exact ⟨h3, by rw [Nat.succ_mul, show i * sz + sz + j = sz + (i * sz + j) by omega]; exact h4⟩
def AV.low : AV → AV
 | .svalf sz xs => .d (.slice sz xs)
 | a => a
theorem RV.low {w : World} {F : Nat → Prop} {Γ : List Slot} {a : AV} {v : Value} (h : RV w F Γ a v) : RV w F Γ a.low v := by
 cases h with
 | svalf h => exact .d h
 | dead v => exact .dead v
 | d h => exact .d h
 | pvar hs hb => exact .pvar hs hb
 | parr hs hb => exact .parr hs hb
 | pval h hi => exact .pval h hi
 | sfull hs hA => exact .sfull hs hA
 | spart hs hn ha => exact .spart hs hn ha
 | mapo hs hb => exact .mapo hs hb
 | func f cs vs hs hr => exact .func f cs vs hs hr
 | yield hs hb => exact .yield hs hb
 | iface t d v hr => exact .iface t d v hr
 | agg cs vs hs h1 hr => exact .agg cs vs hs h1 hr
 | tup cs vs hs hr => exact .tup cs vs hs hr
theorem CV.low {w : World} {F : Nat → Prop} {Γ : List Slot} {cs : List AV} {vs : Array Value} (h : CV w F Γ cs vs) : CV w F Γ (cs.map AV.low) vs := by
 refine ⟨by simpa using h.1, h.2.1, fun j d hj => ?_⟩
 rw [List.getElem?_map] at hj
 cases hx : cs[j]? with
 | none => simp [hx] at hj
 | some x => simp [hx] at hj; subst hj; exact (h.2.2 j x hx).low
def abuildS (E : Env) (T : TypeId) (n : Nat) (ps : List (Nat × AV)) (K : AV → Prop) : Prop := match kd E T with
 | some (.slice e) => (match E.ty e with
  | some te => te.size ≠ 0 ∧ n * te.size ≤ 16777216 ∧ (match afill (fun i => some (i * te.size, te.size)) (rep (te.zero.map .d) n) ps with
   | some cs => (match allD (cs.map AV.low) with
    | some ds => K (.svalf te.size (chunk te.size n ds))
    | none => False)
   | none => False)
  | none => False)
 | _ => False
theorem sr_freezeNew (hS : SR E w F Γ H) {ob : Obj} : SR E (w.alloc ob) (fun b => F b ∨ b = w.heap.size) Γ H ∧ ∀ n0, n0 ≤ Γ.length → Ext n0 w F Γ H (w.alloc ob) (fun b => F b ∨ b = w.heap.size) Γ H := by
 have hold : ∀ b, b < w.heap.size → (w.alloc ob).heap[b]? = w.heap[b]? := fun b hb => Go.RowKit.Below.heap_alloc _ _ _ hb
 have h1 : SR E (w.alloc ob) F Γ H := hS.world (by simp) (fun b hb => hold b (by
  rcases hb with hb | hb
  ·exact hS.low b hb
  ·exact live_lt hS hb))
 refine ⟨⟨h1.len, fun id s o hs ho => (h1.obj id s o hs ho).mono (fun _ h => .inl h) (fun _ _ => rfl) (fun _ _ h => h) (fun _ _ _ => rfl), fun id s o b hs ho hl hb hF => ?_, h1.inj, fun b hb => ?_, fun g sz xs hg => (h1.glob g sz xs hg).mono (fun _ h => .inl h) (fun _ _ => rfl) (fun _ _ h => h)⟩, fun n0 hn => ⟨rfl, rfl, rfl, by simp, fun b hb _ => hold b hb, fun _ h => .inl h, fun b hb hlt => ?_, fun b hb _ => hb, fun _ _ => rfl, hn⟩⟩
 ·rcases hF with hF | hF
  ·exact h1.sep id s o b hs ho hl hb hF
  ·subst hF
   exact Nat.lt_irrefl _ (live_lt hS ⟨id, s, o, hs, ho, hl, hb⟩)
 ·rcases hb with hb | hb
  ·exact h1.low b hb
  ·subst hb; simp
 ·rcases hb with hb | hb
  ·exact .inl hb
  ·omega
theorem abuildS_ok {n0 : Nat} (hE : EnvOk E) (hS : SR E w F Γ H) (hn : n0 ≤ Γ.length) {T : TypeId} {n : Nat} {ps : List (Nat × AV)} {qs : Array (Nat × Value)} {K : AV → Prop} (h : abuildS E T n ps K) (hp : PV w F Γ ps qs.toList) :
  ∃ v w', (Instr.buildSlice T n qs).run E.P w = .ok v w' ∧ Out E n0 w F Γ H v w' (fun av H' => K av ∧ H' = H) := by
 unfold abuildS at h
 split at h <;> try exact h.elim
 rename_i e hk
 obtain ⟨d, hf, hr⟩ := kd_some hE hk
 simp only [Kd.fits] at hf
 subst hf
 split at h <;> try exact h.elim
 rename_i te hte
 obtain ⟨hz0, hlim, h⟩ := h
 split at h <;> try exact h.elim
 rename_i cs hcs
 split at h <;> try exact h.elim
 rename_i ds hds
 obtain ⟨zv, hzv, hcv⟩ := zeroC_ok (T := e) (z := te.zero.map .d) hE (by simp [zeroC, hte])
 obtain ⟨inf, zv', i1, i2, i3, i4, i5, i6, i7, _⟩ := hE.info e te hte
 have hzl : (te.zero.map AV.d).length = te.size := by simp [i6]
 have hesz : esz E e = some te.size := by simp [esz, hte]
 have hCV := made_CV (n := n) (hcv w F Γ) (by rw [hzl]; omega)
 rw [hzl] at hCV
 obtain ⟨vs', hfill, hcv0⟩ := fill_ok _ ps qs.toList _ _ cs hp hCV hcs
 obtain ⟨hS2, hext⟩ := sr_freezeNew (ob := .cells vs' e) hS
 have hcv' := hcv0.low
 have hdsl : ds.length = n * te.size := by
  have h1 := hCV.1
  have h2 := hcv0.1
  have h3 : cs.length = ds.length := by
   have := congrArg List.length (allD_some hds)
   simpa using this
  have h4 : vs'.size = (madeCells zv.cells (n * te.size)).size := by
   have := fill_ok (w := w) (F := F) (Γ := Γ) _ ps qs.toList _ _ _ hp hCV hcs
   clear this
   have key : ∀ (place : Nat → Option (Nat × Nat)) (ps : List (Nat × AV)) (c o : List AV), afill place c ps = some o → o.length = c.length := by
    intro place ps
    induction ps with
    | nil => intro c o h; simp [afill] at h; subst h; rfl
    | cons p ps ih =>
     obtain ⟨i, v⟩ := p
     intro c o h
     simp only [afill] at h
     split at h
     ·split at h
      ·rename_i hc
       rw [ih _ _ h, splice_length _ _ _ (by omega)]
      ·simp at h
     ·simp at h
   have := key _ _ _ _ hcs
   rw [size_madeCells, h2, this, rep_length, hzl]
  rw [h4, size_madeCells] at h2
  omega
 refine ⟨.slice (some ⟨w.heap.size, 0, none⟩) n n, _, ?_, _, Γ, H, .svalf te.size (chunk te.size n ds), hS2, ?_, ⟨h, rfl⟩, hext n0 hn, fun _ _ h => h⟩
 ·have e1 : ¬ n * te.size > 2 ^ 24 := by simp; omega
  have e2 : (Array.range (n * te.size)).map (fun x => zv.cells[x % zv.cells.size]!) = madeCells zv.cells (n * te.size) := rfl
  simp only [Instr.buildSlice, Sem.run_bind, hr, Result.andThen_ok, esz_ok hE hesz, e1, if_false]
  by_cases hnz : n * te.size = 0
  ·have hn0 : n = 0 := by rcases Nat.mul_eq_zero.1 hnz with h | h; exact h; exact absurd h hz0
   subst hn0
   have e3 : madeCells zv.cells (0 * te.size) = #[] := by apply Array.eq_empty_of_size_eq_zero; rw [size_madeCells]; simp
   rw [e3] at hfill
   have e4 : ∀ f : Nat → Value, Array.map f (Array.range 0) = #[] := fun f => Array.eq_empty_of_size_eq_zero (by simp)
   simp [hfill, newRow, e4]
  ·simp only [hnz, if_false, Sem.run_bind, hzv, Result.andThen_ok, Sem.run_pure, e2, hfill, newRow, run_newObj]
   rfl
 ·have hlen : (chunk te.size n ds).length = n := chunk_length _ _ _
  have := RD.slice (w := w.alloc (.cells vs' e)) (F := fun b => F b ∨ b = w.heap.size) te.size (chunk te.size n ds) (some ⟨w.heap.size, 0, none⟩) n (fun i j => vs'.getD (i * te.size + j) undef) (by omega) (fun _ => rfl)
   (fun x hx => by obtain ⟨i, hi⟩ := List.mem_iff_getElem?.1 hx; exact (chunk_get _ _ _ _ _ hdsl hi).1)
   (fun i x j d hx hd => by
    obtain ⟨h1, h2⟩ := (chunk_get _ _ _ _ _ hdsl hx).2 j d hd
    have hlt := (List.getElem?_eq_some_iff.1 h2).1
    have hsz : vs'.size = ds.length := by rw [hcv'.1, allD_some hds]; simp
    refine ⟨hcv'.2.1 _ (by omega), _, rfl, .inr rfl, ?_⟩
    rw [add_plain, Nat.zero_add, cell_of_heap (heap_new w _)]
    exact getD_of (by omega))
   (fun i x j d hx hd => by
    obtain ⟨h1, h2⟩ := (chunk_get _ _ _ _ _ hdsl hx).2 j d hd
    have := hcv'.2.2 (i * te.size + j) (.d d) (by rw [allD_some hds, List.getElem?_map, h2]; rfl)
    exact this.of_d.mono (fun _ h => .inl h) (fun b hb => Go.RowKit.Below.heap_alloc _ _ _ (hS.low b hb)))
  rw [hlen] at this
  have h2 := RV.svalf (Γ := Γ) (w := w.alloc (.cells vs' e)) (F := fun b => F b ∨ b = w.heap.size) (sz := te.size) (xs := chunk te.size n ds) (A := some ⟨w.heap.size, 0, none⟩) (by rw [hlen]; exact this)
  rw [hlen] at h2
  exact h2
/-! ### make -/
def amake (E : Env) (T : TypeId) (H : List AObj) (l c : AV) (K : AV → List AObj → Prop) : Prop := match kd E T, l, c with
 | some (.slice e), .d (.int _ n), .d (.int _ m) => (match E.ty e with
  | some te => te.size ≠ 0 ∧ n = m ∧ 0 ≤ n ∧ room n.toNat te.bytes ∧ K (.sfull H.length) (H ++ [.arr e te.size (List.replicate n.toNat te.zero)])
  | none => False)
 | _, _, _ => False
theorem amake_ok {n0 : Nat} (hE : EnvOk E) (hS : SR E w F Γ H) (hn : n0 ≤ Γ.length) {T : TypeId} {l c : AV} {K : AV → List AObj → Prop} (h : amake E T H l c K) {lv cv : Value} (hl : RV w F Γ l lv) (hc : RV w F Γ c cv) :
  ∃ v w', (Instr.makeSlice T lv cv).run E.P w = .ok v w' ∧ Out E n0 w F Γ H v w' K := by
 unfold amake at h
 split at h <;> try exact h.elim
 rename_i e kl n kc m hk
 obtain ⟨d, hu, hf⟩ := kd_under hE hk
 simp only [Kd.fits] at hf
 subst hf
 split at h <;> try exact h.elim
 rename_i te hte
 obtain ⟨hz0, rfl, h0, ⟨hb, h63⟩, hK⟩ := h
 obtain rfl := RD_int hl.of_d
 obtain rfl := RD_int hc.of_d
 obtain ⟨inf, zv, i1, i2, i3, i4, i5, i6, i7, _⟩ := hE.info e te hte
 have hzl : te.zero.length = te.size := i6
 have hbytes : (inf.bytes : Int) * n ≤ 281474976710656 := by
  have : (n.toNat * te.bytes : Nat) ≤ 281474976710656 := by omega
  have h2 : ((n.toNat * te.bytes : Nat) : Int) ≤ 281474976710656 := by omega
  rw [i3, Int.mul_comm]
  rw [Int.natCast_mul, Int.toNat_of_nonneg h0] at h2
  exact h2
 have hr := run_make (P := E.P) w T e inf zv hu i1 i4 kl kc n n h0 (Int.le_refl _) hbytes (by omega)
 rw [i2] at hr
 have hcv : ∀ w F Γ, CV w F Γ (te.zero.map .d) zv.cells := fun w F Γ => by
  obtain ⟨zv', h1, h2⟩ := zeroC_ok (T := e) (z := te.zero.map .d) hE (by simp [zeroC, hte])
  have h3 : (zeroValue e).run E.P w = .ok zv w := by simp [zeroValue, typeInfo, i1, i4]
  have h4 := h1 w
  rw [h3] at h4
  injection h4 with h4 _
  subst h4
  exact h2 w F Γ
 have hCV := made_CV (n := n.toNat) (hcv w F Γ) (by simp [hzl]; omega)
 simp only [List.length_map, hzl] at hCV
 refine ⟨_, _, hr, ?_⟩
 refine out_new hS hn rfl rfl rfl rfl (s := ⟨some w.heap.size, te.size, n.toNat, n.toNat⟩) rfl (.inl rfl) (av := .sfull H.length) (o := .arr e te.size (List.replicate n.toNat te.zero))
  ⟨rfl, by simp, by simp, fun x hx => by rw [List.eq_of_mem_replicate hx]; exact hzl, .inr ⟨w.heap.size, _, rfl, heap_new w _, by rw [size_madeCells], fun i x j d hx hd => ?_⟩⟩ ?_ hK
 ·have hx' : x = te.zero ∧ i < n.toNat := by
   rw [List.getElem?_replicate] at hx
   split at hx
   ·exact ⟨(Option.some.inj hx).symm, by assumption⟩
   ·simp at hx
  obtain ⟨rfl, hi⟩ := hx'
  have hj := (List.getElem?_eq_some_iff.1 hd).1
  have hlt : i * te.size + j < n.toNat * te.size := by
   have := Nat.mul_le_mul_right te.size (Nat.succ_le_of_lt hi)
   rw [Nat.succ_mul] at this
   omega
  have hget : (rep (te.zero.map AV.d) n.toNat)[i * te.size + j]? = some (.d d) := by
   have hl2 : i * te.size + j < (rep (te.zero.map AV.d) n.toNat).length := by rw [rep_length]; simp [hzl]; exact hlt
   have h1 := List.getElem?_eq_getElem hl2
   have h2 := rep_get _ _ _ _ h1
   have h3 : (i * te.size + j) % te.size = j := by rw [Nat.mul_comm, Nat.mul_add_mod]; exact Nat.mod_eq_of_lt (by omega)
   simp only [List.length_map, hzl, h3, List.getElem?_map, hd, Option.map_some] at h2
   rw [h1, h2]
  exact ⟨hCV.2.1 _ (by rw [size_madeCells]; exact hlt), (hCV.2.2 _ _ hget).of_d.mono (fun _ h => h) (fun b hb => Go.RowKit.Below.heap_alloc _ _ _ (hS.low b hb))⟩
 ·rw [← hS.len]
  exact .sfull (push_get Γ _) (fun b hb => by simp at hb; subst hb; rfl)
/-! ### append -/
def srcRows (H : List AObj) (sz : Nat) (x : AV) (K : List (List D) → Prop) : Prop := match x with
 | .d (.slice sz' xs) => sz' = sz ∧ K xs
 | .d .nils => K []
 | .svalf sz' xs => sz' = sz ∧ K xs
 | .sfull id => (match H.getD id .none with
  | .arr _ sz' xs => sz' = sz ∧ K xs
  | _ => False)
 | .spart id lo n => (match H.getD id .none with
  | .arr _ sz' xs => sz' = sz ∧ lo + n ≤ xs.length ∧ K ((xs.drop lo).take n)
  | _ => False)
 | _ => False
def RowsAt (w : World) (F : Nat → Prop) (sz : Nat) (xs : List (List D)) (f : Nat → Value) : Prop :=
 ∀ i x j d, xs[i]? = some x → x[j]? = some d → (f (i * sz + j)).oneCell' = true ∧ RD w F d (f (i * sz + j))
theorem rows_one {sz : Nat} {xs : List (List D)} {f : Nat → Value} (hl : ∀ x ∈ xs, x.length = sz) (h : RowsAt w F sz xs f) {k : Nat} (hk : k < xs.length * sz) : (f k).oneCell' = true := by
 have hsz : 0 < sz := by rcases Nat.eq_zero_or_pos sz with h0 | h0; (subst h0; simp at hk); exact h0
 have hi : k / sz < xs.length := by rw [Nat.div_lt_iff_lt_mul hsz]; exact hk
 have hx : xs[k / sz]? = some xs[k / sz] := List.getElem?_eq_getElem hi
 have hxl : xs[k / sz].length = sz := hl _ (List.getElem_mem hi)
 have hj : k % sz < sz := Nat.mod_lt _ hsz
 have := (h _ _ (k % sz) _ hx (List.getElem?_eq_getElem (by omega))).1
 rwa [Nat.div_add_mod' k sz] at this
theorem src_val {sz : Nat} {xs : List (List D)} {v : Value} (hd : RD w F (.slice sz xs) v) : ∃ A c f, v = .slice A xs.length c ∧ (∀ y ∈ xs, y.length = sz) ∧
  (0 < xs.length → ∃ a, A = some a ∧ ∀ k, k < xs.length * sz → w.cell? (a.add k) = some (f k)) ∧ RowsAt w F sz xs f := by
 obtain ⟨A, c, rfl, hc, ha, hl, hcells⟩ := hd.slice_inv
 refine ⟨A, c, fun k => (w.cell? ((A.getD default).add k)).getD undef, rfl, hl, fun h0 => ?_, fun i x j d hx hdd => ?_⟩
 ·obtain ⟨a, rfl⟩ := Option.isSome_iff_exists.1 (ha h0)
  refine ⟨a, rfl, fun k hk => ?_⟩
  have hsz : 0 < sz := by rcases Nat.eq_zero_or_pos sz with h0 | h0; (subst h0; simp at hk); exact h0
  obtain ⟨a', u, e, _, _, hu, _⟩ := hcells (k / sz) (k % sz) (by rw [Nat.div_lt_iff_lt_mul hsz]; exact hk) (Nat.mod_lt _ hsz)
  obtain rfl := Option.some.inj e
  rw [Nat.div_add_mod' k sz] at hu
  simp [hu]
 ·have hi := (List.getElem?_eq_some_iff.1 hx).1
  have hxl : x.length = sz := hl _ (List.mem_of_getElem? hx)
  have hj := (List.getElem?_eq_some_iff.1 hdd).1
  obtain ⟨a', u, e, _, h1, hu, hrd⟩ := hcells i j hi (by omega)
  subst e
  have e : cel xs i j = d := by simp [cel, List.getD_eq_getElem?_getD, hx, hdd]
  rw [e] at hrd
  simp [hu, h1, hrd]
theorem srcRows_ok (hS : SR E w F Γ H) {sz : Nat} {x : AV} {K : List (List D) → Prop} (h : srcRows H sz x K) {v : Value} (hv : RV w F Γ x v) :
  ∃ ys A c f, K ys ∧ v = .slice A ys.length c ∧ (∀ y ∈ ys, y.length = sz) ∧ (0 < ys.length → ∃ a, A = some a ∧ ∀ k, k < ys.length * sz → w.cell? (a.add k) = some (f k)) ∧ RowsAt w F sz ys f := by
 unfold srcRows at h
 split at h
 ·obtain ⟨rfl, hK⟩ := h
  obtain ⟨A, c, f, h1⟩ := src_val hv.of_d
  exact ⟨_, A, c, f, hK, h1⟩
 ·have hd := hv.of_d
  cases hd with
  | nils => exact ⟨[], none, 0, fun _ => undef, h, rfl, fun y hy => by simp at hy, fun h => by simp at h, fun i x j d hx => by simp at hx⟩
 ·obtain ⟨rfl, hK⟩ := h
  cases hv with
  | svalf hd =>
   obtain ⟨A, c, f, h1⟩ := src_val hd
   exact ⟨_, A, c, f, hK, h1⟩
 ·split at h <;> try exact h.elim
  rename_i id _ ty sz' xs ho
  obtain ⟨rfl, hK⟩ := h
  cases hv with
  | sfull hs hA =>
   rename_i s A
   obtain ⟨_, hz, hlen, hcap, hl, hro⟩ := obj_at hS hs ho rfl
   rcases hro with ⟨hn, hc0⟩ | ⟨b, c, hb, hh, hcs, hcells⟩
   ·have : xs = [] := List.eq_nil_of_length_eq_zero (by omega)
    subst this
    exact ⟨[], A, s.cap, fun _ => undef, hK, by rw [hlen], hl, fun h => by simp at h, fun i x j d hx => by simp at hx⟩
   ·refine ⟨xs, A, s.cap, fun k => c.getD k undef, hK, by rw [hlen], hl, fun _ => ⟨_, hA b hb, fun k hk => ?_⟩, hcells⟩
    rw [add_plain, Nat.zero_add, cell_of_heap hh]
    have := Nat.mul_le_mul_right sz' hcap
    exact getD_of (by omega)
 ·split at h <;> try exact h.elim
  rename_i id lo n _ ty sz' xs ho
  obtain ⟨rfl, hle, hK⟩ := h
  cases hv with
  | spart hs hn ha =>
   rename_i cc s A
   obtain ⟨_, hz, hlen, hcap, hl, hro⟩ := obj_at hS hs ho rfl
   have hyl : ((xs.drop lo).take n).length = n := by simp; omega
   have hget : ∀ (i : Nat) (x : List D), ((xs.drop lo).take n)[i]? = some x → i < n ∧ xs[lo + i]? = some x := fun i x hx => by
    rw [List.getElem?_take] at hx
    split at hx
    ·rw [List.getElem?_drop] at hx; exact ⟨by assumption, hx⟩
    ·simp at hx
   rcases hro with ⟨hnn, hc0⟩ | ⟨b, c, hb, hh, hcs, hcells⟩
   ·have hn0 : n = 0 := by omega
    subst hn0
    exact ⟨_, A, cc, fun _ => undef, hK, by simp, fun y hy => by simp at hy, fun h => by simp at h, fun i x j d hx => by simp at hx⟩
   ·refine ⟨_, A, cc, fun k => c.getD (lo * sz' + k) undef, hK, by rw [hyl], fun y hy => hl _ (List.mem_of_mem_drop (List.mem_of_mem_take hy)), fun h0 => ?_, fun i x j d hx hd => ?_⟩
    ·obtain ⟨b', hb', rfl⟩ := ha.1 (by omega)
     rw [hb] at hb'
     obtain rfl := Option.some.inj hb'
     refine ⟨_, rfl, fun k hk => ?_⟩
     rw [hyl] at hk
     rw [add_plain, cell_of_heap hh, hz]
     have h1 := Nat.mul_le_mul_right sz' (show lo + n ≤ s.cap by omega)
     rw [Nat.add_mul] at h1
     exact getD_of (by omega)
    ·obtain ⟨_, hx'⟩ := hget i x hx
     have := hcells _ _ j d hx' hd
     rw [Nat.add_mul, Nat.add_assoc] at this
     exact this
 ·exact h.elim
def apSame (xs ys : List (List D)) (A B : Prop) : Prop := match xs, ys with
 | _ :: _, [] => A
 | _, _ => B
def aapp (E : Env) (T T' : TypeId) (H : List AObj) (s x : AV) (K : AV → List AObj → Prop) : Prop := match kd E T with
 | some (.slice e) => (match E.ty e with
  | some te => T' = T ∧ te.size ≠ 0 ∧ srcRows H te.size x (fun ys => match s with
   | .d .nils => room ys.length te.bytes ∧ K (.sfull H.length) (H ++ [.arr e te.size ys])
   | .svalf sz xs => sz = te.size ∧ apSame xs ys (K (.svalf sz xs) H) ((0 < ys.length ∨ xs.length = 0) ∧ room (xs.length + ys.length) te.bytes ∧ K (.sfull H.length) (H ++ [.arr e te.size (xs ++ ys)]))
   | .sfull id => (match H.getD id .none with
    | .arr e' sz xs => e' = e ∧ sz = te.size ∧ room (xs.length + ys.length) te.bytes ∧ K (.sfull H.length) (H.set id .none ++ [.arr e te.size (xs ++ ys)])
    | _ => False)
   | _ => False)
  | none => False)
 | _ => False
theorem ofFn_list (n : Nat) (f : Nat → Value) : (List.ofFn (n := n) fun j => f j.1).length = n ∧ ∀ j u, (List.ofFn (n := n) fun j => f j.1)[j]? = some u → j < n ∧ u = f j := by
 refine ⟨by simp, fun j u h => ?_⟩
 rw [List.getElem?_ofFn] at h
 split at h
 ·exact ⟨by assumption, (Option.some.inj h).symm⟩
 ·simp at h
theorem rows_append {sz : Nat} {xs ys : List (List D)} {f g h : Nat → Value} (hx : ∀ x ∈ xs, x.length = sz) (hy : ∀ y ∈ ys, y.length = sz) (hf : RowsAt w F sz xs f) (hg : RowsAt w F sz ys g)
  (h1 : ∀ k, k < xs.length * sz → h k = f k) (h2 : ∀ k, k < ys.length * sz → h (xs.length * sz + k) = g k) : RowsAt w F sz (xs ++ ys) h := by
 intro i x j d hi hd
 rw [List.getElem?_append] at hi
 split at hi
 ·rename_i hlt
  have hj : j < sz := by have := (List.getElem?_eq_some_iff.1 hd).1; rwa [hx _ (List.mem_of_getElem? hi)] at this
  have hk : i * sz + j < xs.length * sz := by
   have := Nat.mul_le_mul_right sz (Nat.succ_le_of_lt hlt)
   rw [Nat.succ_mul] at this
   omega
  rw [h1 _ hk]
  exact hf i x j d hi hd
 ·rename_i hge
  have hj : j < sz := by have := (List.getElem?_eq_some_iff.1 hd).1; rwa [hy _ (List.mem_of_getElem? hi)] at this
  have hlt := (List.getElem?_eq_some_iff.1 hi).1
  have hk : (i - xs.length) * sz + j < ys.length * sz := by
   have := Nat.mul_le_mul_right sz (Nat.succ_le_of_lt hlt)
   rw [Nat.succ_mul] at this
   omega
  have e : i * sz + j = xs.length * sz + ((i - xs.length) * sz + j) := by
   rw [← Nat.add_assoc, ← Nat.add_mul]
   congr 2
   omega
  rw [e, h2 _ hk]
  exact hg _ x j d hi hd
theorem append_new {n0 : Nat} (hS : SR E w F Γ H) (hn : n0 ≤ Γ.length) {e : TypeId} {sz : Nat} {xs ys : List (List D)} (hx : ∀ x ∈ xs, x.length = sz) (hy : ∀ y ∈ ys, y.length = sz)
  {f g : Nat → Value} (hf : RowsAt w F sz xs f) (hg : RowsAt w F sz ys g) {z : Array Value} (hz : z.size = sz) {cap : Nat} (hcap : xs.length + ys.length ≤ cap)
  {H1 : List AObj} (hH1 : H1 = H ∨ ∃ id, H1 = H.set id .none) {K : AV → List AObj → Prop} (hK : K (.sfull H.length) (H1 ++ [.arr e sz (xs ++ ys)])) :
  Out E n0 w F Γ H (.slice (some ⟨w.heap.size, 0, none⟩) (xs.length + ys.length) cap)
   (w.drew.alloc (.cells ((List.ofFn (n := xs.length * sz) fun j => f j.1).toArray ++ (List.ofFn (n := ys.length * sz) fun j => g j.1).toArray ++ Builtin.zeroCells z (cap - (xs.length + ys.length))) e)) K := by
 obtain ⟨l1, g1⟩ := ofFn_list (xs.length * sz) f
 obtain ⟨l2, g2⟩ := ofFn_list (ys.length * sz) g
 have hsz : ((List.ofFn (n := xs.length * sz) fun j => f j.1).toArray ++ (List.ofFn (n := ys.length * sz) fun j => g j.1).toArray ++ Builtin.zeroCells z (cap - (xs.length + ys.length))).size = cap * sz := by
  rw [Array.size_append, Array.size_append, size_zeroCells, hz]
  simp only [List.size_toArray, l1, l2]
  rw [← Nat.add_mul, ← Nat.add_mul]
  congr 1; omega
 refine out_new hS hn (w1 := w.drew) rfl rfl rfl rfl (s := ⟨some w.heap.size, sz, xs.length + ys.length, cap⟩) rfl hH1 (av := .sfull H.length) (o := .arr e sz (xs ++ ys))
  ⟨rfl, by simp, by simp; exact hcap, fun x hx' => ?_, .inr ⟨w.heap.size, _, rfl, heap_new w.drew _, hsz.symm, ?_⟩⟩ ?_ hK
 ·rcases List.mem_append.1 hx' with h | h
  ·exact hx x h
  ·exact hy x h
 ·have hold : ∀ b, F b → (w.drew.alloc (.cells ((List.ofFn (n := xs.length * sz) fun j => f j.1).toArray ++ (List.ofFn (n := ys.length * sz) fun j => g j.1).toArray ++ Builtin.zeroCells z (cap - (xs.length + ys.length))) e)).heap[b]? = w.heap[b]? :=
   fun b hb => Go.RowKit.Below.heap_alloc w.drew _ _ (hS.low b hb)
  have key := rows_append (w := w) (F := F) (h := fun k => ((List.ofFn (n := xs.length * sz) fun j => f j.1).toArray ++ (List.ofFn (n := ys.length * sz) fun j => g j.1).toArray ++ Builtin.zeroCells z (cap - (xs.length + ys.length))).getD k undef) hx hy hf hg
   (fun k hk => by
    show Array.getD _ k undef = f k
    rw [Array.getD_eq_getD_getElem?, Array.getElem?_append_left (by rw [Array.size_append]; simp [l1]; omega), Array.getElem?_append_left (by simp [l1]; exact hk), List.getElem?_toArray, List.getElem?_ofFn]
    simp [hk])
   (fun k hk => by
    show Array.getD _ (xs.length * sz + k) undef = g k
    rw [Array.getD_eq_getD_getElem?, Array.getElem?_append_left (by rw [Array.size_append]; simp [l1, l2]; omega), Array.getElem?_append_right (by simp [l1]), List.getElem?_toArray, List.getElem?_ofFn]
    simp [l1, hk])
  exact fun i x j d hi hd => ⟨(key i x j d hi hd).1, (key i x j d hi hd).2.mono (fun _ h => h) hold⟩
 ·rw [← hS.len]
  exact .sfull (push_get Γ _) (fun b hb => by simp at hb; subst hb; rfl)
theorem holds_list {sz : Nat} {n : Nat} {f : Nat → Value} {a : Addr} (h : ∀ k, k < n * sz → w.cell? (a.add k) = some (f k)) :
  ∀ j v, (List.ofFn (n := n * sz) fun j => f j.1)[j]? = some v → w.cell? (a.add j) = some v := fun j v hj => by
 obtain ⟨h1, rfl⟩ := (ofFn_list (n * sz) f).2 j v hj
 exact h j h1
theorem out_same {n0 : Nat} (hS : SR E w F Γ H) (hn : n0 ≤ Γ.length) {e : TypeId} {sz : Nat} {A : Option Addr} {K : AV → List AObj → Prop} {H1 : List AObj} (hH1 : H1 = H ∨ ∃ id, H1 = H.set id .none)
  (hK : K (.sfull H.length) (H1 ++ [.arr e sz []])) : Out E n0 w F Γ H (.slice A 0 0) w K := by
 have hS1 : SR E w F Γ H1 := by
  rcases hH1 with rfl | ⟨id, rfl⟩
  ·exact hS
  ·exact hS.dead id
 have hl1 : ∀ b, LiveB Γ H1 b → LiveB Γ H b := fun b hb => by
  rcases hH1 with rfl | ⟨id, rfl⟩
  ·exact hb
  ·exact live_dead hb
 refine ⟨F, Γ ++ [⟨none, sz, 0, 0⟩], H1 ++ [.arr e sz []], .sfull H.length, hS1.push (s := ⟨none, sz, 0, 0⟩) (o := .arr e sz []) ⟨rfl, rfl, Nat.le_refl _, fun x hx => by simp at hx, .inl ⟨rfl, rfl⟩⟩ (fun b hb => by simp at hb), ?_, hK,
  ⟨rfl, rfl, rfl, Nat.le_refl _, fun _ _ _ => rfl, fun _ h => h, fun _ h _ => .inl h, fun b hb _ => ?_, fun id hid => List.getElem?_append_left (by omega), by simp; omega⟩, pre_push Γ _⟩
 ·rw [← hS.len]
  have := RV.sfull (w := w) (F := F) (Γ := Γ ++ [⟨none, sz, 0, 0⟩]) (id := Γ.length) (A := A) (push_get Γ _) (fun b hb => by simp at hb)
  exact this
 ·rcases live_push hS1.len hb with h | h
  ·exact hl1 b h
  ·simp at h
theorem apSame_cases {xs ys : List (List D)} {A B : Prop} (h : apSame xs ys A B) : (0 < xs.length ∧ ys.length = 0 ∧ A) ∨ B := by
 unfold apSame at h
 split at h
 ·exact .inl ⟨by simp, rfl, h⟩
 ·exact .inr h
theorem aapp_ok {n0 : Nat} (hE : EnvOk E) (hS : SR E w F Γ H) (hn : n0 ≤ Γ.length) {T T' ty : TypeId} {s x : AV} {K : AV → List AObj → Prop} (h : aapp E T T' H s x K) {sv xv : Value}
  (hs : RV w F Γ s sv) (hx : RV w F Γ x xv) : ∃ v w', (Builtin.append_ #[T, T'] ty #[sv, xv]).run E.P w = .ok v w' ∧ Out E n0 w F Γ H v w' K := by
 unfold aapp at h
 split at h <;> try exact h.elim
 rename_i e hk
 obtain ⟨d, hu, hf⟩ := kd_under hE hk
 simp only [Kd.fits] at hf
 subst hf
 split at h <;> try exact h.elim
 rename_i te hte
 obtain ⟨rfl, hz0, hsrc⟩ := h
 obtain ⟨inf, zv, i1, i2, i3, i4, i5, i6, i7, _⟩ := hE.info e te hte
 have hzs : zv.cells.size = te.size := by omega
 obtain ⟨ys, B, cb, g, h, rfl, hyl, hyc, hg⟩ := srcRows_ok hS hsrc hx
 clear hsrc
 have big : ∀ n, room n te.bytes → ¬ (9223372036854775807 < (n : Int)) ∧ n * inf.bytes ≤ 140737488355328 := fun n hr => ⟨by have := hr.2; omega, by rw [i3]; exact hr.1⟩
 have none_ : ∀ (A : Option Addr) (n c : Nat), ys.length = 0 → n ≤ c → (Builtin.append_ #[T', T'] ty #[.slice A n c, .slice B ys.length cb]).run E.P w = .ok (.slice A n c) w ∨ n ≠ 0 := by
  intro A n c hy0 hnc
  by_cases h0 : n = 0
  ·left
   subst h0
   have hfc : (Builtin.firstCells inf.size 0 (.slice B 0 cb)).run E.P w = .ok #[] w := by
    cases B with
    | none => simp [Builtin.firstCells]
    | some b => simp [Builtin.firstCells, loadCells, loadCellsFrom]
   cases A with
   | none => simp [Builtin.append_, run_underlying hu, sizeOf, typeInfo, i1, Builtin.lenOf, hy0, hfc]
   | some a => simp [Builtin.append_, run_underlying hu, sizeOf, typeInfo, i1, Builtin.lenOf, hy0, hfc, storeCells]
  ·exact .inr h0
 have grow : ∀ (A : Option Addr) (xs : List (List D)) (cap : Nat) (f : Nat → Value) (H1 : List AObj), (∀ x ∈ xs, x.length = te.size) → RowsAt w F te.size xs f →
   (∃ a, A = some a ∧ ∀ k, k < xs.length * te.size → w.cell? (a.add k) = some (f k)) ∨ (A = none ∧ xs = [] ∧ cap = 0) → cap < xs.length + ys.length → 0 < ys.length → room (xs.length + ys.length) te.bytes →
   (H1 = H ∨ ∃ id, H1 = H.set id .none) → K (.sfull H.length) (H1 ++ [.arr e te.size (xs ++ ys)]) →
   ∃ v w', (Builtin.append_ #[T', T'] ty #[.slice A xs.length cap, .slice B ys.length cb]).run E.P w = .ok v w' ∧ Out E n0 w F Γ H v w' K := by
  intro A xs cap f H1 hxl hfx hA hlt hpos hr hH1 hK
  obtain ⟨b1, b2⟩ := big _ hr
  obtain ⟨a2, rfl, hb⟩ := hyc hpos
  rcases hA with ⟨a, rfl, ha⟩ | ⟨rfl, rfl, rfl⟩
  ·have hrun := run_append_grow (P := E.P) w T' ty e inf zv hu i1 i4 a xs.length cap (List.ofFn (n := xs.length * te.size) fun j => f j.1) (by simp [i2]) (holds_list ha) a2 ys.length cb
    (List.ofFn (n := ys.length * te.size) fun j => g j.1) (by simp [i2]) (holds_list hb) hlt (by omega) (growslice_fits hlt b2)
   exact ⟨_, _, hrun, append_new hS hn hxl hyl hfx hg hzs (grownCap_ge w _ _ _) hH1 hK⟩
  ·simp only [List.length_nil, Nat.zero_add] at hlt hr b1 b2 ⊢
   have hrun := run_append_nil (P := E.P) w T' ty e inf zv hu i1 i4 a2 ys.length cb (List.ofFn (n := ys.length * te.size) fun j => g j.1) (by simp [i2]) (holds_list hb) hpos (by omega) (by omega)
   have := append_new (e := e) (cap := grownCap w ys.length 0 e) hS hn (xs := []) (f := fun _ => undef) (fun x hx => by simp at hx) hyl (fun i x j d hx => by simp at hx) hg hzs (by simp; exact grownCap_ge w _ _ _) hH1 hK
   have e0 : (List.ofFn (n := ([] : List (List D)).length * te.size) fun _ => undef) = [] := List.eq_nil_of_length_eq_zero (by simp)
   rw [e0] at this
   simp only [List.length_nil, Nat.zero_add, Array.empty_append] at this
   exact ⟨_, _, hrun, this⟩
 split at h
 ·-- onto nil
  obtain ⟨hr, hK⟩ := h
  have hd := hs.of_d
  cases hd with
  | nils =>
   rcases Nat.eq_zero_or_pos ys.length with h0 | h0
   ·have : ys = [] := List.eq_nil_of_length_eq_zero h0
    rcases none_ none 0 0 h0 (Nat.le_refl _) with h1 | h1
    ·exact ⟨_, _, h1, out_same hS hn (.inl rfl) (by rw [this] at hK; exact hK)⟩
    ·exact absurd rfl h1
   ·exact grow none [] 0 (fun _ => undef) H (fun x hx => by simp at hx) (fun i x j d hx => by simp at hx) (.inr ⟨rfl, rfl, rfl⟩) (by simp; exact h0) h0 (by simpa using hr) (.inl rfl) (by simpa using hK)
 ·-- onto a row that is full
  rename_i sz xs
  obtain ⟨rfl, hap⟩ := h
  cases hs with
  | svalf hd =>
   rename_i A
   obtain ⟨A', c', f, e', hxl, hxc, hfx⟩ := src_val hd
   injection e' with e1 _ _
   subst e1
   rcases apSame_cases hap with ⟨hx1, hy1, hK⟩ | ⟨hor, hr, hK⟩
   ·obtain ⟨a, rfl, ha⟩ := hxc hx1
    have hfc : (Builtin.firstCells inf.size 0 (.slice B 0 cb)).run E.P w = .ok #[] w := by
     cases B with
     | none => simp [Builtin.firstCells]
     | some b => simp [Builtin.firstCells, loadCells, loadCellsFrom]
    have hrun : (Builtin.append_ #[T', T'] ty #[.slice (some a) xs.length xs.length, .slice B ys.length cb]).run E.P w = .ok (.slice (some a) xs.length xs.length) w := by
     simp [Builtin.append_, run_underlying hu, sizeOf, typeInfo, i1, Builtin.lenOf, hy1, hfc, storeCells]
    exact ⟨_, _, hrun, ⟨F, Γ, H, _, hS, .svalf hd, hK, Ext.refl hn, fun _ _ h => h⟩⟩
   rcases Nat.eq_zero_or_pos ys.length with h0 | h0
   ·have hx0 : xs.length = 0 := by omega
    have hy0 : ys = [] := List.eq_nil_of_length_eq_zero h0
    have hx0' : xs = [] := List.eq_nil_of_length_eq_zero hx0
    rcases none_ A xs.length xs.length h0 (Nat.le_refl _) with h1 | h1
    ·refine ⟨_, _, h1, ?_⟩
     rw [hx0]
     rw [hy0, hx0'] at hK
     exact out_same hS hn (.inl rfl) hK
    ·exact absurd hx0 h1
   ·refine grow A xs xs.length f H hxl hfx ?_ (by omega) h0 hr (.inl rfl) hK
    rcases Nat.eq_zero_or_pos xs.length with hx0 | hx0
    ·have hx0' : xs = [] := List.eq_nil_of_length_eq_zero hx0
     cases A with
     | none => exact .inr ⟨rfl, hx0', hx0⟩
     | some a => exact .inl ⟨a, rfl, fun k hk => by rw [hx0] at hk; simp at hk⟩
    ·exact .inl (hxc hx0)
 ·-- onto a row that is owned
  rename_i id
  split at h <;> try exact h.elim
  rename_i e' sz xs ho
  obtain ⟨rfl, rfl, hr, hK⟩ := h
  cases hs with
  | sfull hsl hA =>
   rename_i s A
   obtain ⟨ho', hz, hlen, hcap, hxl, hro⟩ := obj_at hS hsl ho rfl
   rw [hlen]
   rcases hro with ⟨hnn, hc0⟩ | ⟨b, c, hb, hh, hcs, hcells⟩
   ·have hx0 : xs = [] := List.eq_nil_of_length_eq_zero (by omega)
    subst hx0
    rw [hc0]
    rcases Nat.eq_zero_or_pos ys.length with h0 | h0
    ·have hy0 : ys = [] := List.eq_nil_of_length_eq_zero h0
     rcases none_ A 0 0 h0 (Nat.le_refl _) with h1 | h1
     ·refine ⟨_, _, h1, out_same (e := e') (sz := te.size) hS hn (.inr ⟨id, rfl⟩) ?_⟩
      rw [hy0] at hK
      exact hK
     ·exact absurd rfl h1
    ·cases A with
     | none => exact grow none [] 0 (fun _ => undef) _ (fun x hx => by simp at hx) (fun i x j d hx => by simp at hx) (.inr ⟨rfl, rfl, rfl⟩) (by simp; exact h0) h0 hr (.inr ⟨id, rfl⟩) hK
     | some a => exact grow (some a) [] 0 (fun _ => undef) _ (fun x hx => by simp at hx) (fun i x j d hx => by simp at hx) (.inl ⟨a, rfl, fun k hk => by simp at hk⟩) (by simp; exact h0) h0 hr (.inr ⟨id, rfl⟩) hK
   ·have hfx : RowsAt w F te.size xs (fun k => c.getD k undef) := hcells
    have hcells' : ∀ k, k < xs.length * te.size → w.cell? ((⟨b, 0, none⟩ : Addr).add k) = some (c.getD k undef) := fun k hk => by
     rw [add_plain, Nat.zero_add, cell_of_heap hh]
     have := Nat.mul_le_mul_right te.size hcap
     exact getD_of (by omega)
    rw [hA b hb]
    rcases Nat.lt_or_ge s.cap (xs.length + ys.length) with hlt | hge
    ·exact grow _ xs s.cap _ _ hxl hfx (.inl ⟨_, rfl, hcells'⟩) hlt (by omega) hr (.inr ⟨id, rfl⟩) hK
    ·-- there is room
     have hfit : xs.length * te.size + ys.length * te.size ≤ c.size := by
      rw [← Nat.add_mul, ← hcs]; exact Nat.mul_le_mul_right _ hge
     have hnotF : ¬ F b := hS.sep id s _ b hsl ho' rfl hb
     have hnotL : ¬ LiveB Γ (H.set id .none) b := fun ⟨j, sj, oj, h1, h2, h3, h4⟩ => by
      rcases set_get h2 with ⟨_, rfl, _⟩ | ⟨hne, h2⟩
      ·simp [AObj.live] at h3
      ·exact hne (hS.inj id j s sj _ oj b hsl h1 ho' h2 rfl h3 hb h4)
     obtain ⟨l2, gl2⟩ := ofFn_list (ys.length * te.size) g
     have hrun : (Builtin.append_ #[T', T'] ty #[.slice (some ⟨b, 0, none⟩) xs.length s.cap, .slice B ys.length cb]).run E.P w =
       .ok (.slice (some ⟨b, 0, none⟩) (xs.length + ys.length) s.cap)
        (w.setRow b (c.toList.take (xs.length * te.size) ++ (List.ofFn (n := ys.length * te.size) fun j => g j.1) ++ c.toList.drop (xs.length * te.size + ys.length * te.size)).toArray) := by
      rcases Nat.eq_zero_or_pos ys.length with h0 | h0
      ·have hfc : (Builtin.firstCells inf.size 0 (.slice B 0 cb)).run E.P w = .ok #[] w := by
        cases B with
        | none => simp [Builtin.firstCells]
        | some b => simp [Builtin.firstCells, loadCells, loadCellsFrom]
       have e1 : ys.length * te.size = 0 := by rw [h0]; simp
       have e0 : (List.ofFn (n := ys.length * te.size) fun j => g j.1) = [] := List.eq_nil_of_length_eq_zero (by rw [l2]; exact e1)
       have hself : w.setRow b (c.toList.take (xs.length * te.size) ++ (List.ofFn (n := ys.length * te.size) fun j => g j.1) ++ c.toList.drop (xs.length * te.size + ys.length * te.size)).toArray = w := by
        rw [e0, e1, Nat.add_zero, List.append_nil, List.take_append_drop]
        exact setRow_self w b c e' (0, 0) hh
       rw [hself]
       simp [Builtin.append_, run_underlying hu, sizeOf, typeInfo, i1, Builtin.lenOf, h0, hfc, storeCells, hcap]
      ·obtain ⟨a2, rfl, hb2⟩ := hyc h0
       have := run_append_room (P := E.P) w T' ty e' inf hu i1 b xs.length s.cap c hh a2 ys.length cb (List.ofFn (n := ys.length * te.size) fun j => g j.1) (by simp [i2]) (holds_list hb2)
        (fun u hu => by obtain ⟨j, hj⟩ := List.mem_iff_getElem?.1 hu; obtain ⟨h1, rfl⟩ := gl2 j u hj; exact rows_one hyl hg h1) hge (by rw [i2, l2]; exact hfit)
       rw [i2, l2] at this
       exact this
     refine ⟨_, _, hrun, ?_⟩
     obtain ⟨q1, q2⟩ := splice_arr c (xs.length * te.size) (List.ofFn (n := ys.length * te.size) fun j => g j.1) (by rw [l2]; exact hfit)
     rw [l2] at q1 q2
     have hother : ∀ k, k ≠ b → (w.setRow b (c.toList.take (xs.length * te.size) ++ (List.ofFn (n := ys.length * te.size) fun j => g j.1) ++ c.toList.drop (xs.length * te.size + ys.length * te.size)).toArray).heap[k]? = w.heap[k]? := fun k hk => setRow_other w b k _ hk
     have hSw : SR E (w.setRow b (c.toList.take (xs.length * te.size) ++ (List.ofFn (n := ys.length * te.size) fun j => g j.1) ++ c.toList.drop (xs.length * te.size + ys.length * te.size)).toArray) F Γ (H.set id .none) :=
      (hS.dead id).world (by simp) (fun k hk => hother k (by
       rintro rfl
       rcases hk with hk | hk
       ·exact hnotF hk
       ·exact hnotL hk))
     refine ⟨F, Γ ++ [⟨some b, te.size, xs.length + ys.length, s.cap⟩], H.set id .none ++ [.arr e' te.size (xs ++ ys)], .sfull H.length, hSw.push (s := ⟨some b, te.size, xs.length + ys.length, s.cap⟩) (o := .arr e' te.size (xs ++ ys)) ⟨rfl, by simp, by simp; exact hge, fun x hx' => ?_, .inr ⟨b, _, rfl, setRow_heap w b c _ e' _ hh, by rw [q1]; exact hcs, ?_⟩⟩
      (fun b' hb' => by simp at hb'; subst hb'; exact ⟨hnotF, hnotL⟩), ?_, hK, ⟨rfl, rfl, rfl, by simp, fun k hk hlive => hother k (fun e => hlive (by subst e; exact ⟨id, s, _, hsl, ho', rfl, hb⟩)), fun _ h => h, fun _ h _ => .inl h, fun k hk _ => ?_, fun id hid => List.getElem?_append_left (by omega), by simp; omega⟩, pre_push Γ _⟩
     ·rcases List.mem_append.1 hx' with h | h
      ·exact hxl x h
      ·exact hyl x h
     ·have key := rows_append (w := w) (F := F) (h := fun k => (c.toList.take (xs.length * te.size) ++ (List.ofFn (n := ys.length * te.size) fun j => g j.1) ++ c.toList.drop (xs.length * te.size + ys.length * te.size)).toArray.getD k undef) hxl hyl hfx hg
       (fun k hk => by rw [q2 k, if_neg (by omega)])
       (fun k hk => by
        rw [q2 _, if_pos (by omega), List.getD_eq_getElem?_getD, show xs.length * te.size + k - xs.length * te.size = k by omega, List.getElem?_ofFn]
        simp [hk])
      exact fun i x j d hi hd => ⟨(key i x j d hi hd).1, (key i x j d hi hd).2.mono (fun _ h => h) (fun q hq => hother q (by rintro rfl; exact hnotF hq))⟩
     ·rw [← hS.len]
      have := RV.sfull (w := w.setRow b (c.toList.take (xs.length * te.size) ++ (List.ofFn (n := ys.length * te.size) fun j => g j.1) ++ c.toList.drop (xs.length * te.size + ys.length * te.size)).toArray) (F := F) (Γ := Γ ++ [⟨some b, te.size, xs.length + ys.length, s.cap⟩]) (id := Γ.length) (A := some ⟨b, 0, none⟩) (push_get Γ _) (fun b' hb' => by simp at hb'; subst hb'; rfl)
      exact this
     ·rcases live_push (by simp [hS.len]) hk with h | h
      ·exact live_dead h
      ·simp at h; subst h; exact ⟨id, s, _, hsl, ho', rfl, hb⟩
 ·exact h.elim
/-! Zeros appended to nil -/
def aappZ (E : Env) (T : TypeId) (H : List AObj) (s x : AV) (K : AV → List AObj → Prop) : Prop := match kd E T with
 | some (.slice e) => (match E.ty e, s, x with
  | some te, .d .nils, .d (.int .i64 n) => te.size ≠ 0 ∧ 0 < n ∧ room n.toNat te.bytes ∧ K (.sfull H.length) (H ++ [.arr e te.size (List.replicate n.toNat te.zero)])
  | _, _, _ => False)
 | _ => False
def aapp2 (E : Env) (T T' : TypeId) (H : List AObj) (s x : AV) (K : AV → List AObj → Prop) : Prop := match kd E T' with
 | some (.int _) => aappZ E T H s x K
 | _ => aapp E T T' H s x K
theorem run_append_make {P : Program} {w : World} (t u ty e : TypeId) (k : IntKind) (i : TypeInfo) (z : Value) (ht : P.underlying t = some (.slice e)) (hu : P.underlying u = some (.int k)) (hi : P.info? e = some i) (hz : i.zero = some z)
  (n : Nat) (h0 : 0 < n) (h63 : (n : Int) ≤ 9223372036854775807) (h48 : n * i.bytes ≤ 140737488355328) (hs : n * i.size ≠ 0) :
  (Builtin.append_ #[t, u] ty #[.slice none 0 0, .int .i64 (n : Int)]).run P w =
   .ok (.slice (some ⟨w.heap.size, 0, none⟩) n (grownCap w n 0 e)) (w.drew.alloc (.cells (Builtin.zeroCells z.cells n ++ Builtin.zeroCells z.cells (grownCap w n 0 e - n)) e)) := by
 have hn : n ≠ 0 := by omega
 have h63' : ¬ (9223372036854775807 < (n : Int)) := by omega
 have h48' : ¬ (281474976710656 < Builtin.nextslicecap n 0 * i.bytes) := by rw [nextslicecap_zero h0]; omega
 have hw : IntKind.i64.wrap (n : Int) = (n : Int) := by unfold IntKind.wrap; simp [IntKind.bits, IntKind.signed]; omega
 have h48z : ¬ (281474976710656 < (n : Int) * (i.bytes : Int)) := by
  have : ((n * i.bytes : Nat) : Int) ≤ 140737488355328 := by omega
  rw [Int.natCast_mul] at this
  omega
 have hneg : ¬ ((n : Int) < 0) := by omega
 have hs1 : n = 0 ∨ i.size = 0 ↔ False := by
  constructor
  ·rintro (h | h)
   ·omega
   ·rw [h] at hs; simp at hs
  ·exact fun h => h.elim
 simp [Builtin.append_, run_underlying ht, run_underlying hu, sizeOf, typeInfo, zeroValue, hi, hz, asInt, asIntOf, hw, hneg, h48z, hn, h63', h48', Question.forced, run_firstCells_none, hs1, newRow, grownCap]
 exact fun h => absurd h hs
theorem aappZ_ok {n0 : Nat} (hE : EnvOk E) (hS : SR E w F Γ H) (hn : n0 ≤ Γ.length) {T T' ty : TypeId} {kk : IntKind} (hk' : E.P.underlying T' = some (.int kk)) {s x : AV} {K : AV → List AObj → Prop} (h : aappZ E T H s x K) {sv xv : Value}
  (hs : RV w F Γ s sv) (hx : RV w F Γ x xv) : ∃ v w', (Builtin.append_ #[T, T'] ty #[sv, xv]).run E.P w = .ok v w' ∧ Out E n0 w F Γ H v w' K := by
 unfold aappZ at h
 split at h <;> try exact h.elim
 rename_i e hk
 obtain ⟨d, hu, hf⟩ := kd_under hE hk
 simp only [Kd.fits] at hf
 subst hf
 split at h <;> try exact h.elim
 rename_i te n hte
 obtain ⟨hz0, hpos, hr, hK⟩ := h
 obtain ⟨inf, zv, i1, i2, i3, i4, i5, i6, i7, _⟩ := hE.info e te hte
 have hzs : zv.cells.size = te.size := by omega
 have hzl : te.zero.length = te.size := i6
 obtain rfl := RD_int hx.of_d
 have hd := hs.of_d
 cases hd
 obtain ⟨m, rfl⟩ : ∃ m : Nat, n = (m : Int) := ⟨n.toNat, by omega⟩
 simp only [Int.toNat_natCast] at hr hK
 have hm : 0 < m := by omega
 have hcv : ∀ w F Γ, CV w F Γ (te.zero.map .d) zv.cells := fun w F Γ => by
  obtain ⟨zv', h1, h2⟩ := zeroC_ok (T := e) (z := te.zero.map .d) hE (by simp [zeroC, hte])
  have h3 : (zeroValue e).run E.P w = .ok zv w := by simp [zeroValue, typeInfo, i1, i4]
  have h4 := h1 w
  rw [h3] at h4
  injection h4 with h4 _
  subst h4
  exact h2 w F Γ
 have hCV := made_CV (n := m) (hcv w F Γ) (by simp [hzl]; omega)
 simp only [List.length_map, hzl] at hCV
 have hrun := run_append_make (P := E.P) (w := w) T T' ty e kk inf zv hu hk' i1 i4 m hm (by have := hr.2; omega) (by rw [i3]; exact hr.1) (by rw [i2]; exact Nat.mul_ne_zero (by omega) hz0)
 have hnews : Builtin.zeroCells zv.cells m = (List.ofFn (n := (List.replicate m te.zero).length * te.size) fun j => (madeCells zv.cells (m * te.size)).getD j.1 undef).toArray := by
  have e1 : Builtin.zeroCells zv.cells m = madeCells zv.cells (m * te.size) := by unfold Builtin.zeroCells madeCells; rw [hzs]
  rw [e1]
  refine Array.ext (by rw [size_madeCells]; simp) fun j h1 h2 => ?_
  simp [Array.getD_eq_getD_getElem?, h1]
 have hrows : RowsAt w F te.size (List.replicate m te.zero) fun j => (madeCells zv.cells (m * te.size)).getD j undef := fun i x j d hx hd => by
  have hx' : x = te.zero ∧ i < m := by
   rw [List.getElem?_replicate] at hx
   split at hx
   ·exact ⟨(Option.some.inj hx).symm, by assumption⟩
   ·simp at hx
  obtain ⟨rfl, hi⟩ := hx'
  have hj := (List.getElem?_eq_some_iff.1 hd).1
  have hlt : i * te.size + j < m * te.size := by
   have := Nat.mul_le_mul_right te.size (Nat.succ_le_of_lt hi)
   rw [Nat.succ_mul] at this
   omega
  have hget : (rep (te.zero.map AV.d) m)[i * te.size + j]? = some (.d d) := by
   have hl2 : i * te.size + j < (rep (te.zero.map AV.d) m).length := by rw [rep_length]; simp [hzl]; exact hlt
   have h1 := List.getElem?_eq_getElem hl2
   have h2 := rep_get _ _ _ _ h1
   have h3 : (i * te.size + j) % te.size = j := by rw [Nat.mul_comm, Nat.mul_add_mod]; exact Nat.mod_eq_of_lt (by omega)
   simp only [List.length_map, hzl, h3, List.getElem?_map, hd, Option.map_some] at h2
   rw [h1, h2]
  exact ⟨hCV.2.1 _ (by rw [size_madeCells]; exact hlt), (hCV.2.2 _ _ hget).of_d⟩
 have := append_new (e := e) (cap := grownCap w m 0 e) hS hn (xs := []) (ys := List.replicate m te.zero) (f := fun _ => undef) (fun x hx => by simp at hx) (fun y hy => by rw [List.eq_of_mem_replicate hy]; exact hzl) (fun i x j d hx => by simp at hx) hrows hzs (by simp; exact grownCap_ge w _ _ _) (.inl rfl) (K := K) (by simpa using hK)
 have e0 : (List.ofFn (n := ([] : List (List D)).length * te.size) fun _ => undef) = [] := List.eq_nil_of_length_eq_zero (by simp)
 rw [e0] at this
 simp only [List.length_nil, Nat.zero_add, Array.empty_append] at this
 rw [← hnews] at this
 simp only [List.length_replicate] at this
 exact ⟨_, _, hrun, this⟩
theorem aapp2_ok {n0 : Nat} (hE : EnvOk E) (hS : SR E w F Γ H) (hn : n0 ≤ Γ.length) {T T' ty : TypeId} {s x : AV} {K : AV → List AObj → Prop} (h : aapp2 E T T' H s x K) {sv xv : Value}
  (hs : RV w F Γ s sv) (hx : RV w F Γ x xv) : ∃ v w', (Builtin.append_ #[T, T'] ty #[sv, xv]).run E.P w = .ok v w' ∧ Out E n0 w F Γ H v w' K := by
 unfold aapp2 at h
 split at h
 ·rename_i k hk
  obtain ⟨d, hu, hf⟩ := kd_under hE hk
  simp only [Kd.fits] at hf
  subst hf
  exact aappZ_ok hE hS hn hu h hs hx
 ·exact aapp_ok hE hS hn h hs hx
end
end Go.Abs
end
section
set_option autoImplicit false
set_option linter.unusedVariables false
set_option linter.unusedSimpArgs false
namespace Go.Abs
def amkmap (E : Env) (T : TypeId) (r : Option AV) (H : List AObj) (K : AV → List AObj → Prop) : Prop := match r with
 | none => K (.mapo H.length) (H ++ [.map []])
 | some (.d (.int _ _)) => (match kd E T with
  | some (.map _ _) => K (.mapo H.length) (H ++ [.map []])
  | _ => False)
 | _ => False
def amapup (E : Env) (T : TypeId) (H : List AObj) (m k v : AV) (K : List AObj → Prop) : Prop := match kd E T with
 | some (.map kt _) => (match E.key kt, m, k, v.low with
  | some g, .mapo id, .d kd, .d vd => (match H.getD id .none with
   | .map es => g kd = true ∧ (∀ p ∈ es, g p.1 = true) ∧ K (H.set id (.map (dput es kd vd)))
   | _ => False)
  | _, _, _, _ => False)
 | _ => False
def adel (E : Env) (T : TypeId) (H : List AObj) (m k : AV) (K : List AObj → Prop) : Prop := match kd E T with
 | some (.map kt _) => (match E.key kt, m, k with
  | some g, .mapo id, .d kd => (match H.getD id .none with
   | .map es => g kd = true ∧ (∀ p ∈ es, g p.1 = true) ∧ K (H.set id (.map (ddel es kd)))
   | _ => False)
  | some g, .d .nilm, .d kd => g kd = true ∧ K H
  | _, _, _ => False)
 | _ => False
def aclear (E : Env) (T : TypeId) (H : List AObj) (m : AV) (K : List AObj → Prop) : Prop := match kd E T with
 | some (.map _ _) => (match m with
  | .mapo id => (match H.getD id .none with
   | .map es => K (H.set id (.map []))
   | _ => False)
  | .d .nilm => K H
  | _ => False)
 | some (.slice e) => (match m with
  | .spart id lo n => (match H.getD id .none, E.ty e with
   | .arr ty sz xs, some te => te.size = sz ∧ lo + n ≤ xs.length ∧ K (H.set id (.arr ty sz (splice xs lo (List.replicate n te.zero))))
   | _, _ => False)
  | _ => False)
 | _ => False
section
variable {E : Env} {w : World} {F : Nat → Prop} {Γ : List Slot} {H : List AObj} {n0 : Nat}
def putB (w : World) (b : Nat) (ob : Obj) : World := { w with heap := w.heap.setIfInBounds b ob }
theorem putB_other (w : World) (b k : Nat) (ob : Obj) (h : k ≠ b) : (putB w b ob).heap[k]? = w.heap[k]? := by
 simp [putB, Array.getElem?_setIfInBounds_ne (Ne.symm h)]
theorem putB_same {w : World} {b : Nat} {o : Obj} (h : w.heap[b]? = some o) (ob : Obj) : (putB w b ob).heap[b]? = some ob := by
 have hlt : b < w.heap.size := (Array.getElem?_eq_some_iff.1 h).1
 simp [putB, hlt]
theorem out_ob (hS : SR E w F Γ H) (hn : n0 ≤ Γ.length) {id b : Nat} {s : Slot} {o o' : AObj} (hs : Γ[id]? = some s) (ho : H[id]? = some o) (hl : o.live = true) (hb : s.b = some b)
  {ob : Obj} (hro : RO (putB w b ob) F Γ s o') {K : List AObj → Prop} (hK : K (H.set id o')) {v : Value} {av : AV} (hv : RV (putB w b ob) F Γ av v) : Out E n0 w F Γ H v (putB w b ob) (fun a H' => a = av ∧ K H') := by
 have hnotF : ¬ F b := hS.sep id s o b hs ho hl hb
 have hnotL : ¬ LiveB Γ (H.set id .none) b := fun ⟨j, sj, oj, h1, h2, h3, h4⟩ => by
  rcases set_get h2 with ⟨_, rfl, _⟩ | ⟨hne, h2⟩
  ·simp [AObj.live] at h3
  ·exact hne (hS.inj id j s sj o oj b hs h1 ho h2 hl h3 hb h4)
 have hother : ∀ k, k ≠ b → (putB w b ob).heap[k]? = w.heap[k]? := fun k hk => putB_other w b k ob hk
 have hSw : SR E (putB w b ob) F Γ (H.set id .none) := (hS.dead id).world (by simp [putB]) (fun k hk => hother k (by
  rintro rfl
  rcases hk with hk | hk
  ·exact hnotF hk
  ·exact hnotL hk))
 have hS' : SR E (putB w b ob) F Γ ((H.set id .none).set id o') := hSw.revive hs hro (fun b' hb' => by
  rw [hb] at hb'
  obtain rfl := Option.some.inj hb'
  exact ⟨hnotF, by rw [List.set_set]; exact hnotL⟩)
 rw [List.set_set] at hS'
 refine ⟨F, Γ, _, av, hS', hv, ⟨rfl, hK⟩, ⟨rfl, rfl, rfl, by simp [putB], fun k hk hlive => hother k (fun e => hlive (by subst e; exact ⟨id, s, o, hs, ho, hl, hb⟩)), fun _ h => h, fun _ h _ => .inl h, fun k hk hlt => ?_, fun _ _ => rfl, hn⟩, fun _ _ h => h⟩
 obtain ⟨j, sj, oj, h1, h2, h3, h4⟩ := hk
 rcases set_get h2 with ⟨rfl, rfl, _⟩ | ⟨_, h2⟩
 ·rw [hs] at h1
  obtain rfl := Option.some.inj h1
  exact ⟨id, s, o, hs, ho, hl, h4⟩
 ·exact ⟨j, sj, oj, h1, h2, h3, h4⟩
theorem run_setMap {P : Program} {r : Nat} {es : Array MapEntry} {clock : Nat} (o : Obj) (hb : w.heap[r]? = some (.map es clock)) : (setObj r o).run P w = .ok () (putB w r o) :=
 MapKept.run_setObj_map o hb
theorem amkmap_ok (hE : EnvOk E) (hS : SR E w F Γ H) (hn : n0 ≤ Γ.length) {T : TypeId} {r : Option AV} {K : AV → List AObj → Prop} (h : amkmap E T r H K) {rv : Option Value} (hr : OV w F Γ r rv) :
  ∃ u w', (Instr.makeMap T rv).run E.P w = .ok u w' ∧ Out E n0 w F Γ H u w' K := by
 have hnew : (w.alloc (.map #[] 0)).heap[w.heap.size]? = some (.map #[] 0) := heap_new w _
 have out : K (.mapo H.length) (H ++ [.map []]) → Out E n0 w F Γ H (.map (some w.heap.size)) (w.alloc (.map #[] 0)) K := fun h =>
  out_new hS hn rfl rfl rfl rfl (s := ⟨some w.heap.size, 0, 0, 0⟩) rfl (.inl rfl) (o := .map []) ⟨w.heap.size, #[], 0, rfl, hnew, rfl, fun i k v hi => by simp at hi, fun i j mi mj hi => by simp at hi⟩
   (av := .mapo H.length) (by rw [← hS.len]; exact .mapo (push_get Γ _) rfl) h
 unfold amkmap at h
 split at h
 ·cases rv with
  | none => exact ⟨_, _, by simp [Instr.makeMap], out h⟩
  | some v => exact hr.elim
 ·rename_i k n
  split at h <;> try exact h.elim
  rename_i kt e hkd
  obtain ⟨d, hf, hrun⟩ := kd_some hE hkd
  simp only [Kd.fits] at hf
  subst hf
  cases rv with
  | none => exact hr.elim
  | some v =>
   have := RD_int (RV.of_d hr)
   subst this
   exact ⟨_, _, by simp [Instr.makeMap, hrun, asInt, asIntOf], out h⟩
 ·exact h.elim
theorem getD_arr {arr : Array MapEntry} {i : Nat} {me : MapEntry} (h : arr[i]? = some me) : arr.toList.getD i default = me := by
 rw [List.getD_eq_getElem?_getD, Array.getElem?_toList, h]; rfl
theorem amapup_ok (hE : EnvOk E) (hS : SR E w F Γ H) (hn : n0 ≤ Γ.length) {T : TypeId} {m k v : AV} {K : List AObj → Prop} (h : amapup E T H m k v K) {mv kv vv : Value}
  (hm : RV w F Γ m mv) (hk : RV w F Γ k kv) (hv : RV w F Γ v vv) :
  ∃ w', (Instr.mapUpdate T mv kv vv).run E.P w = .ok () w' ∧ Out E n0 w F Γ H undef w' (fun _ H' => K H') := by
 unfold amapup at h
 split at h <;> try exact h.elim
 rename_i kt e hkd
 obtain ⟨d, hf, hr⟩ := kd_some hE hkd
 simp only [Kd.fits] at hf
 subst hf
 split at h <;> try exact h.elim
 rename_i g id kd vd hg hvd
 split at h <;> try exact h.elim
 rename_i es ho
 obtain ⟨hgk, hes, hK⟩ := h
 have hkd := hk.of_d
 have hvl := hv.low
 rw [hvd] at hvl
 have hvd' := hvl.of_d
 cases hm with
 | mapo hs hb =>
  rename_i s b
  obtain ⟨ho', b', arr, clock, hb', hh, hR⟩ := obj_at hS hs ho rfl
  obtain rfl : b' = b := by rw [hb] at hb'; exact (Option.some.inj hb').symm
  have hfind := re_find hE hg (w := w) (F := F) hR hgk hkd hes
  have hchk := fun e => (hE.key kt g hg).chk w F kd kv e hgk hkd
  have hnF : ∀ q, F q → q ≠ b' := fun q hq e => by subst e; exact hS.sep id s _ q hs ho' rfl hb hq
  have hstay : ∀ (ob : Obj) q, F q → (putB w b' ob).heap[q]? = w.heap[q]? := fun ob q hq => putB_other w b' q ob (hnF q hq)
  have fin : ∀ (arr' : Array MapEntry) (clock' : Nat), RE (putB w b' (.map arr' clock')) F (dput es kd vd) arr' clock' → Out E n0 w F Γ H undef (putB w b' (.map arr' clock')) (fun _ H' => K H') := fun arr' clock' hR' => by
   obtain ⟨F', Γ', H', av, g1, g2, ⟨rfl, g3⟩, g4⟩ := out_ob (v := undef) (av := .dead) hS hn hs ho' rfl hb (ob := .map arr' clock') (o' := .map (dput es kd vd))
    ⟨b', arr', clock', hb, putB_same hh _, hR'.1, hR'.2.1, hR'.2.2⟩ hK (.dead _)
   exact ⟨F', Γ', H', .dead, g1, g2, g3, g4⟩
  cases hi : es.findIdx? (fun p => dkeq kd p.1) with
  | none =>
   rw [hi] at hfind
   refine ⟨_, by simp [Instr.mapUpdate, hr, run_getMap hh, hchk, hfind, run_setMap _ hh]; rfl, fin _ _ ?_⟩
   have e1 : dput es kd vd = es ++ [(kd, vd)] := by unfold dput; rw [hi]
   rw [e1]
   refine ⟨by simp [hR.1], fun i k v hik => ?_, fun i j mi mj h1 h2 he => ?_⟩
   ·rcases Nat.lt_trichotomy i es.length with hlt | heq | hgt
    ·rw [List.getElem?_append_left hlt] at hik
     obtain ⟨me, m1, m2, m3, m4⟩ := hR.2.1 i k v hik
     exact ⟨me, by rw [Array.getElem?_push_lt (by rw [hR.1]; exact hlt)]; rw [Array.getElem?_eq_getElem (by rw [hR.1]; exact hlt)] at m1; exact m1, m2.mono (fun _ h => h) (hstay _), m3.mono (fun _ h => h) (hstay _), by omega⟩
    ·subst heq
     rw [List.getElem?_append_right (Nat.le_refl _)] at hik
     simp at hik
     obtain ⟨rfl, rfl⟩ := hik
     exact ⟨{ key := kv, val := vv, born := clock }, by rw [← hR.1]; simp, hkd.mono (fun _ h => h) (hstay _), hvd'.mono (fun _ h => h) (hstay _), Nat.lt_succ_self _⟩
    ·rw [List.getElem?_eq_none (by simp; omega)] at hik
     simp at hik
   ·have hold : ∀ (i : Nat) (mi : MapEntry), (arr.push { key := kv, val := vv, born := clock })[i]? = some mi → (i < arr.size ∧ arr[i]? = some mi ∧ mi.born < clock) ∨ (i = arr.size ∧ mi.born = clock) := fun i mi h => by
     rcases Nat.lt_trichotomy i arr.size with hlt | heq | hgt
     ·rw [Array.getElem?_push_lt hlt] at h
      have h' : arr[i]? = some mi := by rw [Array.getElem?_eq_getElem hlt]; exact h
      refine .inl ⟨hlt, h', ?_⟩
      have hle : i < es.length := by rw [← hR.1]; exact hlt
      obtain ⟨me, m1, _, _, m4⟩ := hR.2.1 i es[i].1 es[i].2 (List.getElem?_eq_getElem hle)
      rw [h'] at m1
      obtain rfl := Option.some.inj m1
      exact m4
     ·subst heq
      simp at h
      subst h
      exact .inr ⟨rfl, rfl⟩
     ·rw [Array.getElem?_eq_none (by simp; omega)] at h
      simp at h
    rcases hold i mi h1 with ⟨a1, a2, a3⟩ | ⟨a1, a2⟩ <;> rcases hold j mj h2 with ⟨b1, b2, b3⟩ | ⟨b1, b2⟩
    ·exact hR.2.2 i j mi mj a2 b2 he
    ·omega
    ·omega
    ·omega
  | some i =>
   rw [hi] at hfind
   have hi' := hi
   rw [List.findIdx?_eq_some_iff_getElem] at hi'
   obtain ⟨hlt, hkeq, _⟩ := hi'
   have hgi : es[i]? = some es[i] := List.getElem?_eq_getElem hlt
   obtain ⟨me, m1, m2, m3, m4⟩ := hR.2.1 i es[i].1 es[i].2 hgi
   simp only [Option.map_some] at hfind
   rw [getD_arr m1] at hfind
   have hstays := (hE.key kt g hg).stay w F kd es[i].1 kv me.key hgk (hes _ (List.getElem_mem hlt)) hkeq hkd m2
   refine ⟨_, by simp [Instr.mapUpdate, hr, run_getMap hh, hchk, hfind, m1, hstays, run_setMap _ hh]; rfl, fin _ _ ?_⟩
   have e1 : dput es kd vd = es.set i (kd, vd) := by unfold dput; rw [hi]
   rw [e1]
   refine ⟨by simp [hR.1], fun j k v hjk => ?_, fun j l mj ml h1 h2 he => ?_⟩
   ·rcases set_get hjk with ⟨rfl, hkv, _⟩ | ⟨hne, hjk⟩
    ·simp at hkv
     obtain ⟨rfl, rfl⟩ := hkv
     exact ⟨{ me with key := kv, val := vv }, by simp [Array.getElem?_modify, m1], hkd.mono (fun _ h => h) (hstay _), hvd'.mono (fun _ h => h) (hstay _), m4⟩
    ·obtain ⟨mj, n1, n2, n3, n4⟩ := hR.2.1 j k v hjk
     exact ⟨mj, by simp [Array.getElem?_modify, hne, n1], n2.mono (fun _ h => h) (hstay _), n3.mono (fun _ h => h) (hstay _), n4⟩
   ·have old : ∀ (j : Nat) (mj : MapEntry), (arr.modify i fun e => { e with key := kv, val := vv })[j]? = some mj → ∃ m0, arr[j]? = some m0 ∧ m0.born = mj.born := fun j mj h => by
     rw [Array.getElem?_modify] at h
     split at h
     ·cases hj : arr[j]? with
      | none => simp [hj] at h
      | some m0 => simp [hj] at h; exact ⟨m0, rfl, by rw [← h]⟩
     ·exact ⟨mj, h, rfl⟩
    obtain ⟨a, a1, a2⟩ := old j mj h1
    obtain ⟨b, b1, b2⟩ := old l ml h2
    exact hR.2.2 j l a b a1 b1 (by rw [a2, b2, he])
theorem erase_get {α : Type} {l : List α} {i j : Nat} {x : α} (h : (l.eraseIdx i)[j]? = some x) : ∃ j', l[j']? = some x ∧ j' = if j < i then j else j + 1 := by
 rw [List.getElem?_eraseIdx] at h
 split at h
 ·rename_i hlt; exact ⟨j, h, by rw [if_pos hlt]⟩
 ·rename_i hlt; exact ⟨j + 1, h, by rw [if_neg hlt]⟩
theorem adel_ok (hE : EnvOk E) (hS : SR E w F Γ H) (hn : n0 ≤ Γ.length) {T T' ty : TypeId} {m k : AV} {K : List AObj → Prop} (h : adel E T H m k K) {mv kv : Value}
  (hm : RV w F Γ m mv) (hk : RV w F Γ k kv) :
  ∃ w', (Builtin.delete_ #[T, T'] ty #[mv, kv]).run E.P w = .ok (.tuple #[]) w' ∧ Out E n0 w F Γ H (.tuple #[]) w' (fun a H' => a = .d (.tup []) ∧ K H') := by
 have htup : ∀ w', RV w' F Γ (.d (.tup [])) (.tuple #[]) := fun w' => .d (.tup [] #[] rfl (fun j d hj => by simp at hj))
 unfold adel at h
 split at h <;> try exact h.elim
 rename_i kt e hkd
 obtain ⟨d, hf, hr⟩ := kd_some hE hkd
 simp only [Kd.fits] at hf
 subst hf
 split at h <;> try exact h.elim
 ·rename_i g id kd hg
  split at h <;> try exact h.elim
  rename_i es ho
  obtain ⟨hgk, hes, hK⟩ := h
  have hkd := hk.of_d
  cases hm with
  | mapo hs hb =>
   rename_i s b
   obtain ⟨ho', b', arr, clock, hb', hh, hR⟩ := obj_at hS hs ho rfl
   obtain rfl : b' = b := by rw [hb] at hb'; exact (Option.some.inj hb').symm
   have hfind := re_find hE hg (w := w) (F := F) hR hgk hkd hes
   have hchk := fun e => (hE.key kt g hg).chk w F kd kv e hgk hkd
   have hnF : ∀ q, F q → q ≠ b' := fun q hq e => by subst e; exact hS.sep id s _ q hs ho' rfl hb hq
   have hstay : ∀ (ob : Obj) q, F q → (putB w b' ob).heap[q]? = w.heap[q]? := fun ob q hq => putB_other w b' q ob (hnF q hq)
   cases hi : es.findIdx? (fun p => dkeq kd p.1) with
   | none =>
    rw [hi] at hfind
    have e1 : ddel es kd = es := by unfold ddel; rw [hi]
    rw [e1] at hK
    refine ⟨_, by simp [Builtin.delete_, hr, run_getMap hh, hchk, hfind, run_setMap _ hh]; rfl, ?_⟩
    refine out_ob hS hn hs ho' rfl hb (o' := .map es) ⟨b', arr, clock, hb, putB_same hh _, hR.1, fun i k v hik => ?_, hR.2.2⟩ hK (htup _)
    obtain ⟨me, m1, m2, m3, m4⟩ := hR.2.1 i k v hik
    exact ⟨me, m1, m2.mono (fun _ h => h) (hstay _), m3.mono (fun _ h => h) (hstay _), m4⟩
   | some i =>
    rw [hi] at hfind
    have hi' := hi
    rw [List.findIdx?_eq_some_iff_getElem] at hi'
    obtain ⟨hlt, hkeq, _⟩ := hi'
    have hgi : es[i]? = some es[i] := List.getElem?_eq_getElem hlt
    obtain ⟨me, m1, m2, m3, m4⟩ := hR.2.1 i es[i].1 es[i].2 hgi
    simp only [Option.map_some] at hfind
    have e1 : ddel es kd = es.eraseIdx i := by unfold ddel; rw [hi]
    rw [e1] at hK
    have hlt' : i < arr.size := by rw [hR.1]; exact hlt
    have earr : (arr.eraseIdxIfInBounds i).toList = arr.toList.eraseIdx i := by
     unfold Array.eraseIdxIfInBounds
     rw [dif_pos hlt']
     simp
    have hge : ∀ j, (arr.eraseIdxIfInBounds i)[j]? = (arr.toList.eraseIdx i)[j]? := fun j => by rw [← Array.getElem?_toList, earr]
    refine ⟨_, by simp [Builtin.delete_, hr, run_getMap hh, hchk, hfind, run_setMap _ hh]; rfl, ?_⟩
    refine out_ob hS hn hs ho' rfl hb (o' := .map (es.eraseIdx i)) ⟨b', _, clock, hb, putB_same hh _, ?_, fun j k v hjk => ?_, fun j l mj ml h1 h2 he => ?_⟩ hK (htup _)
    ·rw [← Array.length_toList, earr, List.length_eraseIdx, List.length_eraseIdx]
     simp [hR.1, hlt]
    ·obtain ⟨j', hj', hjj⟩ := erase_get hjk
     obtain ⟨mj, n1, n2, n3, n4⟩ := hR.2.1 j' k v hj'
     refine ⟨mj, ?_, n2.mono (fun _ h => h) (hstay _), n3.mono (fun _ h => h) (hstay _), n4⟩
     rw [hge, List.getElem?_eraseIdx]
     rw [← Array.getElem?_toList] at n1
     split
     ·rename_i hlt; rw [if_pos hlt] at hjj; subst hjj; exact n1
     ·rename_i hlt; rw [if_neg hlt] at hjj; subst hjj; exact n1
    ·rw [hge] at h1 h2
     obtain ⟨j', h1, hj⟩ := erase_get h1
     obtain ⟨l', h2, hl⟩ := erase_get h2
     rw [Array.getElem?_toList] at h1 h2
     have := hR.2.2 j' l' mj ml h1 h2 he
     split at hj <;> split at hl <;> omega
 ·rename_i g kd hg
  obtain ⟨hgk, hK⟩ := h
  have hkd := hk.of_d
  have hv := hm.of_d
  cases hv with
  | nilm =>
   have hchk := fun e => (hE.key kt g hg).chk w F kd kv e hgk hkd
   exact ⟨w, by simp [Builtin.delete_, hr, hchk], F, Γ, H, _, hS, htup w, ⟨rfl, hK⟩, Ext.refl hn, fun _ _ h => h⟩
theorem aclear_ok (hE : EnvOk E) (hS : SR E w F Γ H) (hn : n0 ≤ Γ.length) {T ty : TypeId} {m : AV} {K : List AObj → Prop} (h : aclear E T H m K) {mv : Value} (hm : RV w F Γ m mv) :
  ∃ w', (Builtin.clear_ #[T] ty #[mv]).run E.P w = .ok (.tuple #[]) w' ∧ Out E n0 w F Γ H (.tuple #[]) w' (fun a H' => a = .d (.tup []) ∧ K H') := by
 have htup : ∀ w', RV w' F Γ (.d (.tup [])) (.tuple #[]) := fun w' => .d (.tup [] #[] rfl (fun j d hj => by simp at hj))
 unfold aclear at h
 split at h <;> try exact h.elim
 ·rename_i kt e hkd
  obtain ⟨d, hf, hr⟩ := kd_some hE hkd
  simp only [Kd.fits] at hf
  subst hf
  split at h <;> try exact h.elim
  ·rename_i id
   split at h <;> try exact h.elim
   rename_i es ho
   cases hm with
   | mapo hs hb =>
    rename_i s b
    obtain ⟨ho', b', arr, clock, hb', hh, hR⟩ := obj_at hS hs ho rfl
    obtain rfl : b' = b := by rw [hb] at hb'; exact (Option.some.inj hb').symm
    refine ⟨_, by simp [Builtin.clear_, hr, run_getMap hh, run_setMap _ hh]; rfl, ?_⟩
    exact out_ob hS hn hs ho' rfl hb (o' := .map []) ⟨b', #[], clock, hb, putB_same hh _, rfl, fun i k v hi => by simp at hi, fun i j mi mj hi => by simp at hi⟩ h (htup _)
  ·have hv := hm.of_d
   cases hv with
   | nilm => exact ⟨w, by simp [Builtin.clear_, hr], F, Γ, H, _, hS, htup w, ⟨rfl, h⟩, Ext.refl hn, fun _ _ h => h⟩
 ·rename_i e hkd
  obtain ⟨d, hf, hr⟩ := kd_some hE hkd
  simp only [Kd.fits] at hf
  subst hf
  split at h <;> try exact h.elim
  rename_i id lo n
  split at h <;> try exact h.elim
  rename_i ty' sz xs te ho hte
  obtain ⟨htz, hle, hK⟩ := h
  cases hm with
  | spart hs hnc ha =>
   rename_i cc s A
   obtain ⟨ho', hz, hlen, hcap, hl, hro⟩ := obj_at hS hs ho rfl
   by_cases hn0 : n = 0
   ·subst hn0
    have e1 : H.set id (.arr ty' sz (splice xs lo (List.replicate 0 te.zero))) = H := by
     have e2 : splice xs lo (List.replicate 0 te.zero) = xs := by unfold splice; simp
     rw [e2]
     apply List.ext_getElem?
     intro k
     rw [List.getElem?_set]
     split
     ·rename_i e; subst e
      rw [ho']
      simp [(List.getElem?_eq_some_iff.1 ho').1]
     ·rfl
    rw [e1] at hK
    exact ⟨w, by cases A <;> simp [Builtin.clear_, hr], F, Γ, H, _, hS, htup w, ⟨rfl, hK⟩, Ext.refl hn, fun _ _ h => h⟩
   ·obtain ⟨b, hb, rfl⟩ := ha.1 (by omega)
    rcases hro with ⟨hnn, _⟩ | ⟨b', c, hb', hh, hcs, hcells⟩
    ·rw [hnn] at hb; simp at hb
    obtain rfl : b' = b := by rw [hb] at hb'; exact (Option.some.inj hb').symm
    obtain ⟨inf, zv0, i1, i2, i3, i4, i5, i6, i7, _⟩ := hE.info e te hte
    have hzl : te.zero.length = te.size := i6
    obtain ⟨zv, hzv, hcv⟩ := zeroC_ok (T := e) (z := te.zero.map .d) hE (by simp [zeroC, hte])
    have hzs : zv.cells.size = sz := by rw [(hcv w F Γ).1]; simp [hzl, htz]
    have hbound : (lo + n) * sz ≤ c.size := by
     rw [← hcs]
     exact Nat.mul_le_mul_right _ (by omega)
    rw [Nat.add_mul] at hbound
    by_cases hsz0 : sz = 0
    ·subst hsz0
     have hz0 : zv.cells = #[] := Array.eq_empty_of_size_eq_zero hzs
     have e1 : (Builtin.zeroCells zv.cells n).toList = [] := by rw [hz0]; simp [Builtin.zeroCells]
     have hxs : ∀ x ∈ xs, x = [] := fun x hx => List.eq_nil_of_length_eq_zero (hl x hx)
     have hz1 : te.zero = [] := List.eq_nil_of_length_eq_zero (by omega)
     have e2 : splice xs lo (List.replicate n te.zero) = xs := by
      apply List.ext_getElem?
      intro k
      rw [splice_get _ _ _ (by simp; exact hle)]
      split
      ·rename_i hk
       simp only [List.length_replicate] at hk
       rw [List.getElem?_replicate, if_pos (by omega), List.getElem?_eq_getElem (show k < xs.length by omega), hxs _ (List.getElem_mem (show k < xs.length by omega)), hz1]
      ·rfl
     rw [e2] at hK
     have e3 : H.set id (.arr ty' 0 xs) = H := by
      apply List.ext_getElem?
      intro k
      rw [List.getElem?_set]
      split
      ·rename_i e; subst e
       rw [ho']
       simp [(List.getElem?_eq_some_iff.1 ho').1]
      ·rfl
     rw [e3] at hK
     obtain ⟨m, rfl⟩ : ∃ m, n = m + 1 := ⟨n - 1, by omega⟩
     exact ⟨w, by simp [Builtin.clear_, hr, hzv, e1, storeCells], F, Γ, H, _, hS, htup w, ⟨rfl, hK⟩, Ext.refl hn, fun _ _ h => h⟩
    have hCV := made_CV (n := n) (hcv w F Γ) (by simp [hzl]; omega)
    simp only [List.length_map, hzl, htz] at hCV
    have hzc : Builtin.zeroCells zv.cells n = madeCells zv.cells (n * sz) := by unfold Builtin.zeroCells madeCells; rw [hzs]
    have hvl : (Builtin.zeroCells zv.cells n).toList.length = n * sz := by rw [hzc]; simp [size_madeCells]
    have hone : ∀ v ∈ (Builtin.zeroCells zv.cells n).toList, v.oneCell' = true := fun v hv => by
     rw [hzc] at hv
     obtain ⟨j, hj⟩ := List.mem_iff_getElem?.1 hv
     have hjl := (List.getElem?_eq_some_iff.1 hj).1
     have h1 := hCV.2.1 j (by simpa using hjl)
     rw [Array.getElem?_toList] at hj
     rw [Array.getD_eq_getD_getElem?, hj] at h1
     exact h1
    have hst := run_storeCells_at (P := E.P) b' (lo * sz) ty' (Builtin.zeroCells zv.cells n).toList 0 c w hh (by rw [hvl]; omega) hone
    rw [Nat.add_zero, hvl] at hst
    obtain ⟨g1, g2⟩ := splice_arr c (lo * sz) (Builtin.zeroCells zv.cells n).toList (by rw [hvl]; omega)
    rw [hvl] at g1 g2
    rw [hz]
    refine ⟨w.setRow b' (c.toList.take (lo * sz) ++ (Builtin.zeroCells zv.cells n).toList ++ c.toList.drop (lo * sz + n * sz)).toArray, by
     obtain ⟨m, rfl⟩ : ∃ m, n = m + 1 := ⟨n - 1, by omega⟩
     simp [Builtin.clear_, hr, hzv, hst], ?_⟩
    have hlenS : (splice xs lo (List.replicate n te.zero)).length = xs.length := splice_length _ _ _ (by simp; exact hle)
    have hro' : RO (w.setRow b' (c.toList.take (lo * sz) ++ (Builtin.zeroCells zv.cells n).toList ++ c.toList.drop (lo * sz + n * sz)).toArray) F Γ s (.arr ty' sz (splice xs lo (List.replicate n te.zero))) := by
     refine ⟨hz, by rw [hlenS]; exact hlen, by rw [hlenS]; exact hcap, fun y hy => ?_, .inr ⟨b', _, hb, setRow_heap w b' c _ ty' _ hh, by rw [g1]; exact hcs, fun i x j d hx hd => ?_⟩⟩
     ·obtain ⟨q, hq⟩ := List.mem_iff_getElem?.1 hy
      rw [splice_get _ _ _ (by simp; exact hle)] at hq
      split at hq
      ·rw [List.getElem?_replicate] at hq
       split at hq
       ·rw [← Option.some.inj hq]; omega
       ·cases hq
      ·exact hl _ (List.mem_of_getElem? hq)
     ·have hstay : ∀ q, F q → (w.setRow b' (c.toList.take (lo * sz) ++ (Builtin.zeroCells zv.cells n).toList ++ c.toList.drop (lo * sz + n * sz)).toArray).heap[q]? = w.heap[q]? := fun q hq => setRow_other w b' q _ (by
       rintro rfl; exact hS.sep id s _ q hs ho' rfl hb hq)
      rw [splice_get _ _ _ (by simp; exact hle), List.length_replicate] at hx
      rw [g2 (i * sz + j)]
      split at hx
      ·rename_i hi
       rw [List.getElem?_replicate, if_pos (by omega)] at hx
       obtain rfl := Option.some.inj hx
       have hj := (List.getElem?_eq_some_iff.1 hd).1
       have k1 : (i - lo + 1) * sz ≤ n * sz := Nat.mul_le_mul_right _ (by omega)
       rw [Nat.succ_mul] at k1
       have k2 : i * sz = lo * sz + (i - lo) * sz := by rw [← Nat.add_mul]; congr 1; omega
       rw [if_pos (by omega)]
       have k3 : i * sz + j - lo * sz = (i - lo) * sz + j := by omega
       rw [k3]
       have hget : (rep (te.zero.map AV.d) n)[(i - lo) * sz + j]? = some (.d d) := by
        have hl2 : (i - lo) * sz + j < (rep (te.zero.map AV.d) n).length := by rw [rep_length]; simp [hzl, htz]; omega
        have h1 := List.getElem?_eq_getElem hl2
        have h2 := rep_get _ _ _ _ h1
        have h3 : ((i - lo) * sz + j) % sz = j := by rw [Nat.mul_comm, Nat.mul_add_mod]; exact Nat.mod_eq_of_lt (by omega)
        simp only [List.length_map, hzl, htz, h3, List.getElem?_map, hd, Option.map_some] at h2
        rw [h1, h2]
       have e : (Builtin.zeroCells zv.cells n).toList.getD ((i - lo) * sz + j) undef = (madeCells zv.cells (n * sz)).getD ((i - lo) * sz + j) undef := by
        rw [hzc, List.getD_eq_getElem?_getD, Array.getD_eq_getD_getElem?, Array.getElem?_toList]
       rw [e]
       exact ⟨hCV.2.1 _ (by rw [size_madeCells]; omega), (hCV.2.2 _ _ hget).of_d.mono (fun _ h => h) hstay⟩
      ·rename_i hi
       have hj := (List.getElem?_eq_some_iff.1 hd).1
       have hxl := hl x (List.mem_of_getElem? hx)
       rw [if_neg (by
        rintro ⟨k1, k2⟩
        by_cases hil : i < lo
        ·have k3 : (i + 1) * sz ≤ lo * sz := Nat.mul_le_mul_right _ (by omega)
         rw [Nat.succ_mul] at k3
         omega
        ·have k3 : (lo + n) * sz ≤ i * sz := Nat.mul_le_mul_right _ (by omega)
         rw [Nat.add_mul] at k3
         omega)]
       exact ⟨(hcells i x j d hx hd).1, (hcells i x j d hx hd).2.mono (fun _ h => h) hstay⟩
    obtain ⟨F', Γ', H', _, q1, _, q3, q4⟩ := out_put (n0 := n0) (K := fun H' => K H') hS hn hs ho' rfl hb hro' hK
    exact ⟨F', Γ', H', _, q1, .d (.tup [] #[] rfl (fun j d hj => by simp at hj)), ⟨rfl, q3⟩, q4⟩
end
end Go.Abs
end
