/-
  How a state goes on: objects that are dropped, written, new; and the operations that do so: variables, stores, rows that are made or appended to.
-/
import Derived.Test.YtjljjakfebfpfaaDoorAbs4
set_option autoImplicit false
set_option linter.unusedVariables false
set_option linter.unusedSimpArgs false
namespace Go.Abs

section
variable {E : Env} {w w' : World} {F F' : Nat → Prop} {Γ Γ' : List Slot} {H H' : List AObj}

theorem RO.mono {s : Slot} {o : AObj} (hF : ∀ b, F b → F' b) (hw : ∀ b, F b → w'.heap[b]? = w.heap[b]?) (hΓ : ∀ (id : Nat) s, Γ[id]? = some s → Γ'[id]? = some s)
    (hb : ∀ b, s.b = some b → o.live = true → w'.heap[b]? = w.heap[b]?) (h : RO w F Γ s o) : RO w' F' Γ' s o := by
  cases o with
  | none => trivial
  | defr =>
    obtain ⟨b, h1, h2⟩ := h
    exact ⟨b, h1, by rw [hb b h1 rfl]; exact h2⟩
  | map es =>
    obtain ⟨b, arr, cl, h1, h2, h3, h4, h5⟩ := h
    exact ⟨b, arr, cl, h1, by rw [hb b h1 rfl]; exact h2, h3, fun i k v hi => by obtain ⟨me, m1, m2, m3, m4⟩ := h4 i k v hi; exact ⟨me, m1, m2.mono hF hw, m3.mono hF hw, m4⟩, h5⟩
  | mapb es bs clk =>
    obtain ⟨b, arr, h1, h2, h3, h4, h5, h6⟩ := h
    exact ⟨b, arr, h1, by rw [hb b h1 rfl]; exact h2, h3, h4, fun i k v hi => by obtain ⟨me, m1, m2, m3, m4⟩ := h5 i k v hi; exact ⟨me, m1, m2.mono hF hw, m3.mono hF hw, m4⟩, h6⟩
  | iter m bs clk idx =>
    obtain ⟨b, mb, sm, seen, h1, h2, h3, h4, h5⟩ := h
    exact ⟨b, mb, sm, seen, h1, hΓ _ _ h2, h3, by rw [hb b h1 rfl]; exact h4, h5⟩
  | loop fn t ps assign body st =>
    obtain ⟨b, l, h1, h2, h3, h4, h5, h6, h7, h8, h9⟩ := h
    exact ⟨b, l, h1, by rw [hb b h1 rfl]; exact h2, h3, h4, h5, h6, h7, h8, fun j av hj => (h9 j av hj).mono hF hw hΓ⟩
  | var cs =>
    obtain ⟨b, c, ty, h1, h2, h3, h4⟩ := h
    exact ⟨b, c, ty, h1, by rw [hb b h1 rfl]; exact h2, h3, fun j av hj => ⟨(h4 j av hj).1, (h4 j av hj).2.mono hF hw hΓ⟩⟩
  | arr ty sz xs =>
    obtain ⟨h1, h2, h3, h4, h5⟩ := h
    refine ⟨h1, h2, h3, h4, ?_⟩
    rcases h5 with h5 | ⟨b, c, h6, h7, h8, h9⟩
    · exact .inl h5
    · exact .inr ⟨b, c, h6, by rw [hb b h6 rfl]; exact h7, h8, fun i x j d hx hd => ⟨(h9 i x j d hx hd).1, (h9 i x j d hx hd).2.mono hF hw⟩⟩

theorem heap_new (w : World) (o : Obj) : (w.alloc o).heap[w.heap.size]? = some o := by
  show (w.heap.push o)[w.heap.size]? = some o
  simp
theorem set_get {α : Type} {l : List α} {i j : Nat} {a b : α} (h : (l.set i a)[j]? = some b) : (i = j ∧ b = a ∧ i < l.length) ∨ (i ≠ j ∧ l[j]? = some b) := by
  by_cases hij : i = j
  · subst hij
    rw [List.getElem?_set] at h
    split at h
    · rename_i hlt
      split at h
      · exact .inl ⟨rfl, (Option.some.inj h).symm, by assumption⟩
      · simp at h
    · simp at *
  · rw [List.getElem?_set_ne hij] at h
    exact .inr ⟨hij, h⟩

theorem SR.dead (hS : SR E w F Γ H) (id : Nat) : SR E w F Γ (H.set id .none) where
  len := by simp [hS.len]
  obj j s o hs ho := by
    rcases set_get ho with ⟨_, rfl, _⟩ | ⟨_, ho⟩
    · trivial
    · exact hS.obj j s o hs ho
  sep j s o b hs ho hl hb := by
    rcases set_get ho with ⟨_, rfl, _⟩ | ⟨_, ho⟩
    · simp [AObj.live] at hl
    · exact hS.sep j s o b hs ho hl hb
  inj i j si sj oi oj b h1 h2 h3 h4 l1 l2 b1 b2 := by
    rcases set_get h3 with ⟨_, rfl, _⟩ | ⟨_, h3⟩
    · simp [AObj.live] at l1
    rcases set_get h4 with ⟨_, rfl, _⟩ | ⟨_, h4⟩
    · simp [AObj.live] at l2
    exact hS.inj i j si sj oi oj b h1 h2 h3 h4 l1 l2 b1 b2
  low := hS.low
  glob := hS.glob

theorem live_dead {id b : Nat} (h : LiveB Γ (H.set id .none) b) : LiveB Γ H b := by
  obtain ⟨j, s, o, h1, h2, h3, h4⟩ := h
  rcases set_get h2 with ⟨_, rfl, _⟩ | ⟨_, h2⟩
  · simp [AObj.live] at h3
  · exact ⟨j, s, o, h1, h2, h3, h4⟩

theorem SR.world (hS : SR E w F Γ H) (hsz : w.heap.size ≤ w'.heap.size) (h : ∀ b, (F b ∨ LiveB Γ H b) → w'.heap[b]? = w.heap[b]?) : SR E w' F Γ H where
  len := hS.len
  obj j s o hs ho := (hS.obj j s o hs ho).mono (fun _ h => h) (fun b hb => h b (.inl hb)) (fun _ _ h => h) (fun b hb hl => h b (.inr ⟨j, s, o, hs, ho, hl, hb⟩))
  sep := hS.sep
  inj := hS.inj
  low b hb := Nat.lt_of_lt_of_le (hS.low b hb) hsz
  glob g sz xs hg := (hS.glob g sz xs hg).mono (fun _ h => h) (fun b hb => h b (.inl hb)) (fun _ _ h => h)

theorem SR.push (hS : SR E w F Γ H) {s : Slot} {o : AObj} (ho : RO w F (Γ ++ [s]) s o) (hb : ∀ b, s.b = some b → ¬ F b ∧ ¬ LiveB Γ H b) : SR E w F (Γ ++ [s]) (H ++ [o]) := by
  have pre : ∀ (id : Nat) s', Γ[id]? = some s' → (Γ ++ [s])[id]? = some s' := fun id s' h => by
    rw [List.getElem?_append_left (List.getElem?_eq_some_iff.1 h).1]; exact h
  have cases' : ∀ (id : Nat) s' o', (Γ ++ [s])[id]? = some s' → (H ++ [o])[id]? = some o' → (Γ[id]? = some s' ∧ H[id]? = some o') ∨ (id = Γ.length ∧ s' = s ∧ o' = o) := fun id s' o' h1 h2 => by
    rcases Nat.lt_trichotomy id Γ.length with h | h | h
    · rw [List.getElem?_append_left h] at h1
      rw [List.getElem?_append_left (by rw [← hS.len]; exact h)] at h2
      exact .inl ⟨h1, h2⟩
    · subst h
      rw [List.getElem?_append_right (Nat.le_refl _)] at h1
      rw [List.getElem?_append_right (by rw [hS.len]; exact Nat.le_refl _)] at h2
      simp [hS.len] at h1 h2
      exact .inr ⟨rfl, h1.symm, h2.symm⟩
    · rw [List.getElem?_eq_none (by simp; omega)] at h1
      simp at h1
  refine ⟨by simp [hS.len], fun id s' o' h1 h2 => ?_, fun id s' o' b h1 h2 hl h3 => ?_, fun i j si sj oi oj b h1 h2 h3 h4 l1 l2 b1 b2 => ?_, hS.low, hS.glob⟩
  · rcases cases' id s' o' h1 h2 with ⟨h3, h4⟩ | ⟨_, rfl, rfl⟩
    · exact (hS.obj id s' o' h3 h4).mono (fun _ h => h) (fun _ _ => rfl) pre (fun _ _ _ => rfl)
    · exact ho
  · rcases cases' id s' o' h1 h2 with ⟨h4, h5⟩ | ⟨_, rfl, rfl⟩
    · exact hS.sep id s' o' b h4 h5 hl h3
    · exact (hb b h3).1
  · rcases cases' i si oi h1 h3 with ⟨h5, h6⟩ | ⟨e1, rfl, rfl⟩ <;> rcases cases' j sj oj h2 h4 with ⟨h7, h8⟩ | ⟨e2, rfl, rfl⟩
    · exact hS.inj i j si sj oi oj b h5 h7 h6 h8 l1 l2 b1 b2
    · exact absurd ⟨i, si, oi, h5, h6, l1, b1⟩ (hb b b2).2
    · exact absurd ⟨j, sj, oj, h7, h8, l2, b2⟩ (hb b b1).2
    · omega

theorem SR.revive (hS : SR E w F Γ H) {id : Nat} {s : Slot} {o : AObj} (hs : Γ[id]? = some s) (ho : RO w F Γ s o) (hb : ∀ b, s.b = some b → ¬ F b ∧ ¬ LiveB Γ (H.set id .none) b) : SR E w F Γ (H.set id o) := by
  have cases' : ∀ (j : Nat) o', (H.set id o)[j]? = some o' → (j = id ∧ o' = o) ∨ (j ≠ id ∧ H[j]? = some o' ∧ (H.set id .none)[j]? = some o') := fun j o' h => by
    rcases set_get h with ⟨rfl, rfl, _⟩ | ⟨hne, h⟩
    · exact .inl ⟨rfl, rfl⟩
    · exact .inr ⟨Ne.symm hne, h, by rw [List.getElem?_set_ne hne]; exact h⟩
  refine ⟨by simp [hS.len], fun j s' o' h1 h2 => ?_, fun j s' o' b h1 h2 hl h3 => ?_, fun i j si sj oi oj b h1 h2 h3 h4 l1 l2 b1 b2 => ?_, hS.low, hS.glob⟩
  · rcases cases' j o' h2 with ⟨rfl, rfl⟩ | ⟨_, h3, _⟩
    · rw [hs] at h1; obtain rfl := Option.some.inj h1; exact ho
    · exact hS.obj j s' o' h1 h3
  · rcases cases' j o' h2 with ⟨rfl, rfl⟩ | ⟨_, h4, _⟩
    · rw [hs] at h1; obtain rfl := Option.some.inj h1; exact (hb b h3).1
    · exact hS.sep j s' o' b h1 h4 hl h3
  · rcases cases' i oi h3 with ⟨rfl, rfl⟩ | ⟨n1, h5, h5'⟩ <;> rcases cases' j oj h4 with ⟨rfl, rfl⟩ | ⟨n2, h6, h6'⟩
    · rfl
    · rw [hs] at h1; obtain rfl := Option.some.inj h1
      exact absurd ⟨j, sj, oj, h2, h6', l2, b2⟩ (hb b b1).2
    · rw [hs] at h2; obtain rfl := Option.some.inj h2
      exact absurd ⟨i, si, oi, h1, h5', l1, b1⟩ (hb b b2).2
    · exact hS.inj i j si sj oi oj b h1 h2 h5 h6 l1 l2 b1 b2

theorem live_lt (hS : SR E w F Γ H) {b : Nat} (h : LiveB Γ H b) : b < w.heap.size := by
  obtain ⟨id, s, o, h1, h2, h3, h4⟩ := h
  have ho := hS.obj id s o h1 h2
  cases o with
  | none => simp [AObj.live] at h3
  | defr =>
    obtain ⟨b', hb, hh⟩ := ho
    rw [h4] at hb
    obtain rfl := Option.some.inj hb
    exact (Array.getElem?_eq_some_iff.1 hh).1
  | map es =>
    obtain ⟨b', arr, cl, hb, hh, _⟩ := ho
    rw [h4] at hb
    obtain rfl := Option.some.inj hb
    exact (Array.getElem?_eq_some_iff.1 hh).1
  | mapb es bs clk =>
    obtain ⟨b', arr, hb, hh, _⟩ := ho
    rw [h4] at hb
    obtain rfl := Option.some.inj hb
    exact (Array.getElem?_eq_some_iff.1 hh).1
  | iter m bs clk idx =>
    obtain ⟨b', mb, sm, seen, hb, _, _, hh, _⟩ := ho
    rw [h4] at hb
    obtain rfl := Option.some.inj hb
    exact (Array.getElem?_eq_some_iff.1 hh).1
  | loop fn t ps assign body st =>
    obtain ⟨b', l, hb, hh, _⟩ := ho
    rw [h4] at hb
    obtain rfl := Option.some.inj hb
    exact (Array.getElem?_eq_some_iff.1 hh).1
  | var cs =>
    obtain ⟨b', c, ty, hb, hh, _⟩ := ho
    rw [h4] at hb
    obtain rfl := Option.some.inj hb
    exact (Array.getElem?_eq_some_iff.1 hh).1
  | arr ty sz xs =>
    obtain ⟨_, _, _, _, hro⟩ := ho
    rcases hro with ⟨hn, _⟩ | ⟨b', c, hb, hh, _⟩
    · rw [h4] at hn; simp at hn
    · rw [h4] at hb
      obtain rfl := Option.some.inj hb
      exact (Array.getElem?_eq_some_iff.1 hh).1

/-- What an operation comes to that writes: a value, and a later state. -/
def Out (E : Env) (n0 : Nat) (w : World) (F : Nat → Prop) (Γ : List Slot) (H : List AObj) (v : Value) (w' : World) (K : AV → List AObj → Prop) : Prop :=
  ∃ F' Γ' H' av, SR E w' F' Γ' H' ∧ RV w' F' Γ' av v ∧ K av H' ∧ Ext n0 w F Γ H w' F' Γ' H' ∧ (∀ (id : Nat) s, Γ[id]? = some s → Γ'[id]? = some s)

theorem pre_push (Γ : List Slot) (s : Slot) : ∀ (id : Nat) s', Γ[id]? = some s' → (Γ ++ [s])[id]? = some s' := fun id s' h => by
  rw [List.getElem?_append_left (List.getElem?_eq_some_iff.1 h).1]; exact h
theorem push_get (Γ : List Slot) (s : Slot) : (Γ ++ [s])[Γ.length]? = some s := by simp

theorem live_push {s : Slot} {o : AObj} (hlen : Γ.length = H.length) {b : Nat} (h : LiveB (Γ ++ [s]) (H ++ [o]) b) : LiveB Γ H b ∨ s.b = some b := by
  obtain ⟨id, s', o', h1, h2, h3, h4⟩ := h
  rcases Nat.lt_trichotomy id Γ.length with h | h | h
  · rw [List.getElem?_append_left h] at h1
    rw [List.getElem?_append_left (by omega)] at h2
    exact .inl ⟨id, s', o', h1, h2, h3, h4⟩
  · subst h
    simp at h1
    subst h1
    exact .inr h4
  · rw [List.getElem?_eq_none (by simp; omega)] at h1
    simp at h1

/-- A new block, and the object that lies in it. -/
theorem out_new {n0 : Nat} (hS : SR E w F Γ H) (hn : n0 ≤ Γ.length) {w1 : World} (hh : w1.heap = w.heap) (hos : w1.os = w.os) (htape : w1.tape = w.tape) (hout : w1.output = w.output)
    {ob : Obj} {s : Slot} (hs : s.b = some w.heap.size) {H1 : List AObj} (hH1 : H1 = H ∨ ∃ id, H1 = H.set id .none) {o : AObj}
    (ho : RO (w1.alloc ob) F (Γ ++ [s]) s o) {av : AV} {v : Value} (hv : RV (w1.alloc ob) F (Γ ++ [s]) av v) {K : AV → List AObj → Prop} (hK : K av (H1 ++ [o])) :
    Out E n0 w F Γ H v (w1.alloc ob) K := by
  have hS1 : SR E w F Γ H1 := by
    rcases hH1 with rfl | ⟨id, rfl⟩
    · exact hS
    · exact hS.dead id
  have hl1 : ∀ b, LiveB Γ H1 b → LiveB Γ H b := fun b hb => by
    rcases hH1 with rfl | ⟨id, rfl⟩
    · exact hb
    · exact live_dead hb
  have hsz : (w1.alloc ob).heap.size = w.heap.size + 1 := by rw [World.size_alloc, hh]
  have hold : ∀ b, b < w.heap.size → (w1.alloc ob).heap[b]? = w.heap[b]? := fun b hb => by
    rw [Go.RowKit.Below.heap_alloc _ _ _ (by rw [hh]; exact hb), hh]
  have hSw : SR E (w1.alloc ob) F Γ H1 := hS1.world (by omega) (fun b hb => hold b (by
    rcases hb with hb | hb
    · exact hS1.low b hb
    · exact live_lt hS1 hb))
  have hfresh : ∀ b, s.b = some b → ¬ F b ∧ ¬ LiveB Γ H1 b := fun b hb => by
    rw [hs] at hb
    obtain rfl := Option.some.inj hb
    exact ⟨fun h => Nat.lt_irrefl _ (hS1.low _ h), fun h => Nat.lt_irrefl _ (live_lt hS1 h)⟩
  refine ⟨F, Γ ++ [s], H1 ++ [o], av, hSw.push ho hfresh, hv, hK, ⟨hos, htape, hout, by omega, fun b hb _ => hold b hb, fun _ h => h, fun _ h _ => .inl h, fun b hb hlt => ?_, fun id hid => ?_, by simp; omega⟩, pre_push Γ s⟩
  · rcases live_push hS1.len hb with h | h
    · exact hl1 b h
    · rw [hs] at h; obtain rfl := Option.some.inj h; omega
  · exact List.getElem?_append_left (by omega)

/-! ### Variables -/
theorem out_var {n0 : Nat} (hS : SR E w F Γ H) (hn : n0 ≤ Γ.length) (ty : TypeId) {cs : List AV} {vs : Array Value} (hc : CV w F Γ cs vs) {K : AV → List AObj → Prop} (hK : K (.pvar H.length 0) (H ++ [.var cs])) :
    Out E n0 w F Γ H (.pointer (some ⟨w.heap.size, 0, none⟩)) (w.alloc (.cells vs ty)) K := by
  have hold : ∀ b, b < w.heap.size → (w.alloc (.cells vs ty)).heap[b]? = w.heap[b]? := fun b hb => Go.RowKit.Below.heap_alloc _ _ _ hb
  have hnew : (w.alloc (.cells vs ty)).heap[w.heap.size]? = some (.cells vs ty (0, 0)) := heap_new w _
  refine out_new hS hn rfl rfl rfl rfl (s := ⟨some w.heap.size, 0, 0, 0⟩) rfl (.inl rfl) (o := .var cs) ⟨w.heap.size, vs, ty, rfl, hnew, hc.1, fun j av hj => ?_⟩ (av := .pvar H.length 0) ?_ hK
  · have hjl := (List.getElem?_eq_some_iff.1 hj).1
    exact ⟨hc.2.1 j (by rw [hc.1]; exact hjl), (hc.2.2 j av hj).mono (fun _ h => h) (fun b hb => hold b (hS.low b hb)) (pre_push Γ _)⟩
  · rw [← hS.len]
    exact .pvar (push_get Γ _) rfl

theorem run_newVar (P : Program) (t : TypeId) (v : Value) (w : World) : (newVar t v).run P w = .ok ⟨w.heap.size, 0, none⟩ (w.alloc (.cells v.cells t)) := by
  simp [newVar, newRow]

def abox (H : List AObj) (x : AV) (K : AV → List AObj → Prop) : Prop := match x.cells with
  | some cs => K (.pvar H.length 0) (H ++ [.var cs])
  | none => False
theorem abox_ok {n0 : Nat} (hS : SR E w F Γ H) (hn : n0 ≤ Γ.length) {x : AV} {K : AV → List AObj → Prop} (h : abox H x K) {v : Value} (hv : RV w F Γ x v) (ty : TypeId) :
    ∃ u w', (Instr.box ty v).run E.P w = .ok u w' ∧ Out E n0 w F Γ H u w' K := by
  unfold abox at h
  split at h
  · rename_i cs hcs
    obtain ⟨h1, h2, h3⟩ := cells_ok hv hcs
    exact ⟨_, _, by simp only [Instr.box, Sem.run_bind, run_newVar, Result.andThen_ok]; rfl, out_var hS hn ty ⟨h1, h2, h3⟩ h⟩
  · exact h.elim
def aalloc (E : Env) (T : TypeId) (H : List AObj) (K : AV → List AObj → Prop) : Prop := match zeroC E T with
  | some z => K (.pvar H.length 0) (H ++ [.var z])
  | none => False
theorem aalloc_ok {n0 : Nat} (hE : EnvOk E) (hS : SR E w F Γ H) (hn : n0 ≤ Γ.length) {T : TypeId} {K : AV → List AObj → Prop} (h : aalloc E T H K) :
    ∃ u w', (Instr.alloc T true (.tuple #[])).run E.P w = .ok u w' ∧ Out E n0 w F Γ H u w' K := by
  unfold aalloc at h
  split at h
  · rename_i z hz
    obtain ⟨zv, h1, h2⟩ := zeroC_ok hE hz
    exact ⟨_, _, by simp only [Instr.alloc, Sem.run_bind, h1, run_newVar, Result.andThen_ok]; rfl, out_var hS hn T (h2 w F Γ) h⟩
  · exact h.elim

/-! ### Stores -/
def upd1 (xs : List (List D)) (i k : Nat) (d : D) : List (List D) := xs.set i ((xs.getD i []).set k d)
def updN (xs : List (List D)) (i k : Nat) (ds : List D) : List (List D) := xs.set i (splice (xs.getD i []) k ds)
def astore (E : Env) (T : TypeId) (H : List AObj) (a v : AV) (K : List AObj → Prop) : Prop := match a with
  | .pvar id k => (match H.getD id .none with
    | .var cs => (match v.cells with
      | some vs => esz E T = some vs.length ∧ k + vs.length ≤ cs.length ∧ K (H.set id (.var (splice cs k vs)))
      | none => False)
    | _ => False)
  | .parr id i k => (match H.getD id .none with
    | .arr ty sz xs => (match v with
      | .d x => (match x.cells with
        | some ds => esz E T = some ds.length ∧ i < xs.length ∧ k + ds.length ≤ sz ∧ K (H.set id (.arr ty sz (updN xs i k ds)))
        | none => False)
      | _ => False)
    | _ => False)
  | _ => False

theorem Dcells_ok {x : D} {ds : List D} (h : x.cells = some ds) : (AV.d x).cells = some (ds.map .d) := by simp [AV.cells, h]

theorem run_storeVar (hE : EnvOk E) {T : TypeId} {b k : Nat} {c : Array Value} {ty : TypeId} {v : Value} (hh : w.heap[b]? = some (.cells c ty (0, 0))) (hsz : esz E T = some v.cells.size)
    (hle : k + v.cells.size ≤ c.size) (h1 : ∀ j, j < v.cells.size → (v.cells.getD j undef).oneCell' = true) :
    (storeVar T ⟨b, k, none⟩ v).run E.P w = .ok () (w.setRow b (c.toList.take k ++ v.cells.toList ++ c.toList.drop (k + v.cells.size)).toArray) := by
  have := run_storeCells_at E.P b k ty v.cells.toList 0 c w hh (by simpa using hle) (fun u hu => by
    obtain ⟨j, hj⟩ := List.mem_iff_getElem?.1 hu
    have hjl : j < v.cells.size := by have := (List.getElem?_eq_some_iff.1 hj).1; simpa using this
    have h2 := h1 j hjl
    rw [Array.getElem?_toList] at hj
    rw [Array.getD_eq_getD_getElem?, hj] at h2
    exact h2)
  simp only [storeVar, Sem.run_bind, esz_ok hE hsz, Result.andThen_ok, ne_eq, not_true_eq_false, if_false]
  simpa using this

theorem splice_arr (c : Array Value) (k : Nat) (vs : List Value) (hle : k + vs.length ≤ c.size) :
    (c.toList.take k ++ vs ++ c.toList.drop (k + vs.length)).toArray.size = c.size ∧
    ∀ j, (c.toList.take k ++ vs ++ c.toList.drop (k + vs.length)).toArray.getD j undef = if k ≤ j ∧ j < k + vs.length then vs.getD (j - k) undef else c.getD j undef := by
  have h := splice_get c.toList k vs (by simpa using hle)
  have hl := splice_length c.toList k vs (by simpa using hle)
  unfold splice at h hl
  refine ⟨by simpa using hl, fun j => ?_⟩
  rw [Array.getD_eq_getD_getElem?, List.getElem?_toArray, h j]
  split
  · rw [List.getD_eq_getElem?_getD]
  · rw [Array.getD_eq_getD_getElem?, Array.getElem?_toList]

theorem out_put {n0 : Nat} (hS : SR E w F Γ H) (hn : n0 ≤ Γ.length) {id b : Nat} {s : Slot} {o o' : AObj} (hs : Γ[id]? = some s) (ho : H[id]? = some o) (hl : o.live = true) (hb : s.b = some b)
    {c : Array Value} (hro : RO (w.setRow b c) F Γ s o') {K : List AObj → Prop} (hK : K (H.set id o')) : Out E n0 w F Γ H undef (w.setRow b c) (fun _ H' => K H') := by
  have hnotF : ¬ F b := hS.sep id s o b hs ho hl hb
  have hnotL : ¬ LiveB Γ (H.set id .none) b := fun ⟨j, sj, oj, h1, h2, h3, h4⟩ => by
    rcases set_get h2 with ⟨_, rfl, _⟩ | ⟨hne, h2⟩
    · simp [AObj.live] at h3
    · exact hne (hS.inj id j s sj o oj b hs h1 ho h2 hl h3 hb h4)
  have hother : ∀ k, k ≠ b → (w.setRow b c).heap[k]? = w.heap[k]? := fun k hk => setRow_other w b k c hk
  have hSw : SR E (w.setRow b c) F Γ (H.set id .none) := (hS.dead id).world (by simp) (fun k hk => hother k (by
    rintro rfl
    rcases hk with hk | hk
    · exact hnotF hk
    · exact hnotL hk))
  have hS' : SR E (w.setRow b c) F Γ ((H.set id .none).set id o') := hSw.revive hs hro (fun b' hb' => by
    rw [hb] at hb'
    obtain rfl := Option.some.inj hb'
    exact ⟨hnotF, by rw [List.set_set]; exact hnotL⟩)
  rw [List.set_set] at hS'
  refine ⟨F, Γ, _, .dead, hS', .dead _, hK, ⟨rfl, rfl, rfl, by simp, fun k hk hlive => hother k (fun e => hlive (by subst e; exact ⟨id, s, o, hs, ho, hl, hb⟩)), fun _ h => h, fun _ h _ => .inl h, fun k hk hlt => ?_, fun _ _ => rfl, hn⟩, fun _ _ h => h⟩
  obtain ⟨j, sj, oj, h1, h2, h3, h4⟩ := hk
  rcases set_get h2 with ⟨rfl, rfl, _⟩ | ⟨_, h2⟩
  · rw [hs] at h1
    obtain rfl := Option.some.inj h1
    exact ⟨id, s, o, hs, ho, hl, h4⟩
  · exact ⟨j, sj, oj, h1, h2, h3, h4⟩

theorem astore_ok {n0 : Nat} (hE : EnvOk E) (hS : SR E w F Γ H) (hn : n0 ≤ Γ.length) {T : TypeId} {a x : AV} {K : List AObj → Prop} (h : astore E T H a x K) {p v : Value} (ha : RV w F Γ a p) (hv : RV w F Γ x v) :
    ∃ w', (Instr.storeAt T p v).run E.P w = .ok () w' ∧ Out E n0 w F Γ H undef w' (fun _ H' => K H') := by
  unfold astore at h
  split at h
  · rename_i id k
    split at h <;> try exact h.elim
    rename_i cs ho
    split at h <;> try exact h.elim
    rename_i us hus
    obtain ⟨hsz, hle, hK⟩ := h
    cases ha with
    | pvar hs hb =>
      rename_i s b
      obtain ⟨ho', hro⟩ := obj_at hS hs ho rfl
      obtain ⟨b', c, ty, hb', hh, hcs, hcells⟩ := hro
      obtain rfl : b' = b := by rw [hb] at hb'; exact (Option.some.inj hb').symm
      obtain ⟨h1, h2, h3⟩ := cells_ok hv hus
      have hrun := run_storeVar (w := w) (k := k) (v := v) hE hh (by rw [h1]; exact hsz) (by omega) h2
      refine ⟨_, by simp only [Instr.storeAt, Instr.sureAddr, Sem.run_bind, Sem.run_pure, Result.andThen_ok]; exact hrun, ?_⟩
      have hvl : v.cells.toList.length = v.cells.size := by simp
      obtain ⟨g1, g2⟩ := splice_arr c k v.cells.toList (by omega)
      rw [hvl] at g1 g2
      refine out_put (o' := .var (splice cs k us)) (c := (c.toList.take k ++ v.cells.toList ++ c.toList.drop (k + v.cells.size)).toArray) hS hn hs ho' rfl hb ⟨b', _, ty, hb, setRow_heap w b' c _ ty _ hh, ?_, fun j av hj => ?_⟩ hK
      · rw [g1, splice_length _ _ _ (by omega)]; exact hcs
      · have hstay : ∀ b, F b → (w.setRow b' (c.toList.take k ++ v.cells.toList ++ c.toList.drop (k + v.cells.size)).toArray).heap[b]? = w.heap[b]? := fun q hq => setRow_other w b' q _ (by
          rintro rfl; exact hS.sep id s _ q hs ho' rfl hb hq)
        rw [splice_get _ _ _ (by omega)] at hj
        rw [g2 j]
        split at hj
        · rename_i hkk
          rw [if_pos (by omega)]
          have e : v.cells.toList.getD (j - k) undef = v.cells.getD (j - k) undef := by rw [List.getD_eq_getElem?_getD, Array.getD_eq_getD_getElem?, Array.getElem?_toList]
          rw [e]
          exact ⟨h2 _ (by omega), (h3 _ _ hj).mono (fun _ h => h) hstay (fun _ _ h => h)⟩
        · rename_i hkk
          rw [if_neg (by omega)]
          exact ⟨(hcells _ _ hj).1, (hcells _ _ hj).2.mono (fun _ h => h) hstay (fun _ _ h => h)⟩
  · rename_i id i k
    split at h <;> try exact h.elim
    rename_i ty sz xs ho
    split at h <;> try exact h.elim
    rename_i x
    split at h <;> try exact h.elim
    rename_i ds hds
    obtain ⟨hsz, hi, hle, hK⟩ := h
    cases ha with
    | parr hs hb =>
      rename_i s b
      obtain ⟨ho', hz, hlen, hcap, hl, hro⟩ := obj_at hS hs ho rfl
      rcases hro with ⟨hnn, _⟩ | ⟨b', c, hb', hh, hcs, hcells⟩
      · rw [hnn] at hb; simp at hb
      obtain rfl : b' = b := by rw [hb] at hb'; exact (Option.some.inj hb').symm
      obtain ⟨h1, h2, h3⟩ := cells_ok hv (Dcells_ok hds)
      have h1' : v.cells.size = ds.length := by simpa using h1
      have hin : i * sz + sz ≤ c.size := by
        have h3 : (i + 1) * sz ≤ s.cap * sz := Nat.mul_le_mul_right _ (by omega)
        rw [Nat.succ_mul] at h3
        omega
      rw [hz]
      have hrun := run_storeVar (w := w) (k := i * sz + k) (v := v) hE hh (by rw [h1']; exact hsz) (by omega) h2
      refine ⟨_, by simp only [Instr.storeAt, Instr.sureAddr, Sem.run_bind, Sem.run_pure, Result.andThen_ok]; exact hrun, ?_⟩
      have hvl : v.cells.toList.length = v.cells.size := by simp
      obtain ⟨g1, g2⟩ := splice_arr c (i * sz + k) v.cells.toList (by omega)
      rw [hvl] at g1 g2
      have hxi : xs[i]? = some xs[i] := List.getElem?_eq_getElem hi
      have hxl : xs[i].length = sz := hl _ (List.getElem_mem hi)
      have hgd : xs.getD i [] = xs[i] := by simp [List.getD_eq_getElem?_getD, hxi]
      refine out_put (o' := .arr ty sz (updN xs i k ds)) (c := (c.toList.take (i * sz + k) ++ v.cells.toList ++ c.toList.drop (i * sz + k + v.cells.size)).toArray) hS hn hs ho' rfl hb ⟨hz, by simp [updN, hlen], by simpa [updN] using hcap, fun y hy => ?_, .inr ⟨b', _, hb, setRow_heap w b' c _ ty _ hh, by rw [g1]; exact hcs, fun i' x' j d hx' hd => ?_⟩⟩ hK
      · obtain ⟨q, hq⟩ := List.mem_iff_getElem?.1 hy
        rcases set_get hq with ⟨_, rfl, _⟩ | ⟨_, hq⟩
        · rw [splice_length _ _ _ (by rw [hgd, hxl]; omega), hgd, hxl]
        · exact hl _ (List.mem_of_getElem? hq)
      · have hstay : ∀ b, F b → (w.setRow b' (c.toList.take (i * sz + k) ++ v.cells.toList ++ c.toList.drop (i * sz + k + v.cells.size)).toArray).heap[b]? = w.heap[b]? := fun q hq => setRow_other w b' q _ (by
          rintro rfl; exact hS.sep id s _ q hs ho' rfl hb hq)
        rw [g2 _]
        rcases set_get hx' with ⟨rfl, rfl, _⟩ | ⟨hne, hx'⟩
        · rw [hgd, splice_get _ _ _ (by rw [hxl]; omega)] at hd
          split at hd
          · rename_i hkk
            rw [if_pos (by omega)]
            have e : v.cells.toList.getD (i * sz + j - (i * sz + k)) undef = v.cells.getD (j - k) undef := by
              rw [List.getD_eq_getElem?_getD, Array.getD_eq_getD_getElem?, Array.getElem?_toList, show i * sz + j - (i * sz + k) = j - k by omega]
            rw [e]
            have := h3 (j - k) (.d d) (by rw [List.getElem?_map, hd]; rfl)
            exact ⟨h2 _ (by omega), this.of_d.mono (fun _ h => h) hstay⟩
          · rename_i hkk
            rw [if_neg (by omega)]
            exact ⟨(hcells i _ j d hxi hd).1, (hcells i _ j d hxi hd).2.mono (fun _ h => h) hstay⟩
        · have hj : j < sz := by
            have := (List.getElem?_eq_some_iff.1 hd).1
            rwa [hl _ (List.mem_of_getElem? hx')] at this
          rw [if_neg (by
            intro hkk
            have : i = i' := by
              have e1 : (i * sz + (i' * sz + j - i * sz)) = i' * sz + j := by omega
              rcases Nat.lt_trichotomy i i' with h | h | h
              · have := Nat.mul_le_mul_right sz (Nat.succ_le_of_lt h); rw [Nat.succ_mul] at this; omega
              · exact h
              · have := Nat.mul_le_mul_right sz (Nat.succ_le_of_lt h); rw [Nat.succ_mul] at this; omega
            exact hne this)]
          exact ⟨(hcells i' x' j d hx' hd).1, (hcells i' x' j d hx' hd).2.mono (fun _ h => h) hstay⟩
  · exact h.elim
end
end Go.Abs
