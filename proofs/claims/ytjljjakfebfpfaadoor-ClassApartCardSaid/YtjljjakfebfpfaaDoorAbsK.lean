/-
  Maps: what is found under a key, what a store and a deletion make of the entries; and that the machine's operations do so.
-/
import Derived.Test.YtjljjakfebfpfaaDoorAbs3
set_option autoImplicit false
set_option linter.unusedVariables false
set_option linter.unusedSimpArgs false
namespace Go.Abs

def dget (es : List (D × D)) (k : D) : Option D := (es.find? fun p => dkeq k p.1).map (·.2)
def dput (es : List (D × D)) (k v : D) : List (D × D) := match es.findIdx? (fun p => dkeq k p.1) with
  | some i => es.set i (k, v)
  | none => es ++ [(k, v)]
def ddel (es : List (D × D)) (k : D) : List (D × D) := match es.findIdx? (fun p => dkeq k p.1) with
  | some i => es.eraseIdx i
  | none => es

/-- The zero value of a type. -/
def zeroV (E : Env) (t : TypeId) : Option D := match E.ty t with
  | some i => some i.zv
  | none => none
def lookRes (ok : Bool) (z : D) (r : Option D) : AV := match ok with
  | true => .d (.tup [r.getD z, .bool r.isSome])
  | false => .d (r.getD z)
def alook (E : Env) (T : TypeId) (H : List AObj) (x k : AV) (ok : Bool) (K : AV → Prop) : Prop := match kd E T with
  | some (.map kt e) => (match E.key kt, zeroV E e, k with
    | some g, some z, .d kd => g kd = true ∧ (match x with
      | .d .nilm => K (lookRes ok z none)
      | .mapo id => (match H.getD id .none with
        | .map es => (∀ p ∈ es, g p.1 = true) ∧ K (lookRes ok z (dget es kd))
        | _ => False)
      | _ => False)
    | _, _, _ => False)
  | _ => False

section
variable {E : Env} {w : World} {F : Nat → Prop} {Γ : List Slot} {H : List AObj}

theorem zeroV_ok (hE : EnvOk E) {t : TypeId} {z : D} (h : zeroV E t = some z) : ∃ v, (∀ w, (zeroValue t).run E.P w = .ok v w) ∧ ∀ w F, RD w F z v := by
  unfold zeroV at h
  cases hi : E.ty t with
  | none => simp [hi] at h
  | some i =>
    simp [hi] at h
    subst h
    obtain ⟨inf, v, h1, h2, h3, h4, h5, h6, h7, h8⟩ := hE.info t i hi
    exact ⟨v, fun w => by simp [zeroValue, typeInfo, h1, h4], h8⟩

theorem lookRes_ok {ok : Bool} {z d : D} {r : Option D} {v : Value} (h : RD w F (r.getD z) v) :
    RV w F Γ (lookRes ok z r) (if ok then .tuple #[v, .bool r.isSome] else v) := by
  cases ok with
  | true =>
    refine .d (.tup _ _ rfl fun j d hj => ?_)
    match j with
    | 0 => simp at hj; subst hj; simpa using h
    | 1 => simp at hj; subst hj; exact .bool _
    | j + 2 => simp at hj
  | false => exact .d h

/-- The entries, as the machine holds them. -/
def RE (w : World) (F : Nat → Prop) (es : List (D × D)) (arr : Array MapEntry) (clock : Nat) : Prop :=
  arr.size = es.length ∧
      (∀ (i : Nat) k v, es[i]? = some (k, v) → ∃ me : MapEntry, arr[i]? = some me ∧ RD w F k me.key ∧ RD w F v me.val ∧ me.born < clock) ∧
      (∀ (i j : Nat) (mi mj : MapEntry), arr[i]? = some mi → arr[j]? = some mj → mi.born = mj.born → i = j)

theorem findIdx_map {α β : Type} (f : α → β) (p : β → Bool) : ∀ l : List α, (l.map f).findIdx? p = l.findIdx? fun a => p (f a)
  | [] => rfl
  | a :: l => by simp [List.findIdx?_cons, findIdx_map f p l]

theorem re_find (hE : EnvOk E) {kt : TypeId} {g : D → Bool} (hg : E.key kt = some g) {es : List (D × D)} {arr : Array MapEntry} {clock : Nat} (hR : RE w F es arr clock)
    {k : D} {v : Value} (hk : g k = true) (hv : RD w F k v) (hes : ∀ p ∈ es, g p.1 = true) :
    (Instr.findKey kt v arr.toList).run E.P w = .ok ((es.findIdx? fun p => dkeq k p.1).map fun i => (i, (arr.toList.getD i default).val)) w := by
  have := (hE.key kt g hg).find w F k v (es.map (·.1)) arr.toList hk hv (by simp [hR.1]) (fun i d hd => by
    rw [List.getElem?_map] at hd
    cases hi : es[i]? with
    | none => simp [hi] at hd
    | some p =>
      obtain ⟨a, b⟩ := p
      simp [hi] at hd
      subst hd
      obtain ⟨me, m1, m2, _⟩ := hR.2.1 i a b hi
      exact ⟨hes _ (List.mem_of_getElem? hi), me, by rw [Array.getElem?_toList]; exact m1, m2⟩)
  rw [findIdx_map] at this
  exact this

theorem run_getMap {P : Program} {r : Nat} {es : Array MapEntry} {clock : Nat} (hb : w.heap[r]? = some (.map es clock)) : (getObj r).run P w = .ok (.map es clock) w := MapKept.run_getObj_map hb

theorem find_idx {α : Type} (p : α → Bool) : ∀ (l : List α), (match l.findIdx? p with | some i => l[i]? | none => none) = l.find? p
  | [] => rfl
  | a :: l => by
    rw [List.findIdx?_cons, List.find?_cons]
    cases h : p a with
    | true => rfl
    | false =>
      rw [← find_idx p l]
      cases hh : l.findIdx? p <;> simp

theorem alook_ok (hE : EnvOk E) (hS : SR E w F Γ H) {T : TypeId} {x k : AV} {ok : Bool} {K : AV → Prop} (h : alook E T H x k ok K) {xv kv : Value} (hx : RV w F Γ x xv) (hk : RV w F Γ k kv) :
    ∃ v av, (Instr.lookup T xv kv ok).run E.P w = .ok v w ∧ K av ∧ RV w F Γ av v := by
  unfold alook at h
  split at h <;> try exact h.elim
  rename_i kt e hkd
  obtain ⟨d, hf, hr⟩ := kd_some hE hkd
  simp only [Kd.fits] at hf
  subst hf
  split at h <;> try exact h.elim
  rename_i g z kd hg hz
  obtain ⟨hgk, h⟩ := h
  obtain ⟨zv, hz1, hz2⟩ := zeroV_ok hE hz
  have hkd := hk.of_d
  split at h
  · -- nil
    have hv := hx.of_d
    cases hv with
    | nilm =>
      have hfind := (hE.key kt g hg).find w F kd kv [] [] hgk hkd rfl (fun i d hd => by simp at hd)
      refine ⟨_, _, ?_, h, lookRes_ok (d := .nilp) (r := none) (hz2 w F)⟩
      simp [Instr.lookup, hr, (hE.key kt g hg).chk w F kd kv true hgk hkd, hfind, hz1]
  · rename_i id
    split at h <;> try exact h.elim
    rename_i es ho
    obtain ⟨hes, h⟩ := h
    cases hx with
    | mapo hs hb =>
      rename_i s b
      obtain ⟨ho', b', arr, clock, hb', hh, hR⟩ := obj_at hS hs ho rfl
      obtain rfl : b' = b := by rw [hb] at hb'; exact (Option.some.inj hb').symm
      have hfind := re_find hE hg (w := w) (F := F) hR hgk hkd hes
      have hget := find_idx (fun p : D × D => dkeq kd p.1) es
      have hchk := fun e => (hE.key kt g hg).chk w F kd kv e hgk hkd
      cases hi : es.findIdx? (fun p => dkeq kd p.1) with
      | none =>
        rw [hi] at hfind hget
        have hd : dget es kd = none := by unfold dget; rw [← hget]; rfl
        refine ⟨_, _, ?_, h, lookRes_ok (d := .nilp) (v := zv) (by rw [hd]; exact hz2 w F)⟩
        simp [Instr.lookup, hr, run_getMap hh, hchk, hfind, hz1, hd]
      | some i =>
        rw [hi] at hfind hget
        have hlt : i < es.length := by
          rw [List.findIdx?_eq_some_iff_getElem] at hi
          exact hi.1
        have hgi : es[i]? = some es[i] := List.getElem?_eq_getElem hlt
        have hd : dget es kd = some es[i].2 := by unfold dget; rw [← hget]; simp [hgi]
        obtain ⟨me, m1, m2, m3, m4⟩ := hR.2.1 i es[i].1 es[i].2 hgi
        refine ⟨_, _, ?_, h, lookRes_ok (d := .nilp) (v := me.val) (by rw [hd]; exact m3)⟩
        have hme : (arr.toList.getD i default) = me := by rw [List.getD_eq_getElem?_getD, Array.getElem?_toList, m1]; rfl
        simp only [Option.map_some] at hfind
        rw [hme] at hfind
        simp [Instr.lookup, hr, run_getMap hh, hchk, hfind, hd]
  · exact h.elim

/-! ### Key types -/
def isIntK (k : IntKind) : D → Bool
  | .int k' _ => k' == k
  | _ => false
def isStrK : D → Bool
  | .str _ => true
  | _ => false

theorem keyLaw_of {P : Program} {t : TypeId} {desc : TypeDesc} (hu : P.underlying t = some desc) {g : D → Bool} (hg : ∀ w F d v, g d = true → RD w F d v → MapKept.IsKey desc v)
    (hs : ∀ w F d d' v v', g d = true → g d' = true → RD w F d v → RD w F d' v' → (dkeq d d' = true ↔ v' = v)) : KeyLaw P t g where
  chk w F k v e hk hv := MapKept.run_checkKey hu (hg w F k v hk hv) e 9999
  find w F k v ks es hk hv hl hks := by
    have hkey := hg w F k v hk hv
    have hall : ∀ x ∈ es, MapKept.IsKey desc x.key := fun x hx => by
      obtain ⟨i, hi⟩ := List.mem_iff_getElem?.1 hx
      have hlt : i < ks.length := by rw [hl]; exact (List.getElem?_eq_some_iff.1 hi).1
      obtain ⟨h1, e, h2, h3⟩ := hks i ks[i] (List.getElem?_eq_getElem hlt)
      rw [hi] at h2
      obtain rfl := Option.some.inj h2
      exact hg w F _ _ h1 h3
    have first : ∀ (es : List MapEntry) (ks : List D) (n : Nat), ks.length = es.length → (∀ (i : Nat) d, ks[i]? = some d → g d = true ∧ ∃ e, es[i]? = some e ∧ RD w F d e.key) →
        Instr.findNow desc v es n = some ((ks.findIdx? (dkeq k)).map fun i => (i + n, (es.getD i default).val)) := by
      intro es
      induction es with
      | nil => intro ks n hl _; cases ks with
        | nil => rfl
        | cons _ _ => simp at hl
      | cons e es ih =>
        intro ks n hl hks
        cases ks with
        | nil => simp at hl
        | cons d ks =>
          obtain ⟨h1, e', h2, h3⟩ := hks 0 d rfl
          simp at h2
          subst h2
          obtain ⟨r, hr1, hr2⟩ := MapKept.sameNow_of_keys hkey (hg w F d e.key h1 h3)
          have hiff := hs w F k d v e.key hk h1 hv h3
          cases hd : dkeq k d with
          | true =>
            have hr : r = true := hr2.2 (hiff.1 hd).symm
            subst hr
            simp [Instr.findNow, hr1, List.findIdx?_cons, hd]
          | false =>
            have hr : r = false := by
              cases r with
              | false => rfl
              | true => exact absurd (hiff.2 (hr2.1 rfl).symm) (by simp [hd])
            subst hr
            have := ih ks (n + 1) (by simpa using hl) (fun i d hi => by simpa using hks (i + 1) d (by simpa using hi))
            simp only [Instr.findNow, hr1, this, List.findIdx?_cons, hd]
            cases ks.findIdx? (dkeq k) <;> simp; omega
    have := first es ks 0 hl hks
    simpa using MapKept.run_findKey hu this
  stay w F k d v u hk hd hkd hv hu' := by
    have := (hs w F k d v u hk hd hv hu').1 hkd
    subst this
    exact MapKept.run_keyThatStays (hg w F _ _ hk hv)

theorem intKey {P : Program} {t : TypeId} {k : IntKind} (hu : P.underlying t = some (.int k)) : KeyLaw P t (isIntK k) :=
  keyLaw_of hu (fun w F d v hd hv => by
    cases hv <;> simp [isIntK] at hd
    subst hd
    rfl) (fun w F d d' v v' hd hd' hv hv' => by
    cases hv <;> simp [isIntK] at hd
    cases hv' <;> simp [isIntK] at hd'
    subst hd hd'
    simp only [dkeq, skeq, beq_self_eq_true, Bool.true_and, beq_iff_eq, Value.int.injEq, true_and]
    exact eq_comm)
theorem strKey {P : Program} {t : TypeId} (hu : P.underlying t = some .string) : KeyLaw P t isStrK :=
  keyLaw_of hu (fun w F d v hd hv => by
    cases hv <;> simp [isStrK] at hd
    trivial) (fun w F d d' v v' hd hd' hv hv' => by
    cases hv <;> simp [isStrK] at hd
    cases hv' <;> simp [isStrK] at hd'
    simp only [dkeq, skeq, MapKept.bytes_beq, Value.string.injEq]
    exact eq_comm)
end
end Go.Abs
