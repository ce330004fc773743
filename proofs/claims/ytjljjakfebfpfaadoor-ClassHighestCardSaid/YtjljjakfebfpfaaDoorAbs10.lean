/-
  A function's contract from its body; the same state told in another way; a contract over few objects, used among many.
-/
import Derived.Test.YtjljjakfebfpfaaDoorAbsC
set_option autoImplicit false
set_option linter.unusedVariables false
set_option linter.unusedSimpArgs false
namespace Go.Abs

/-! ### Renumbering -/
mutual
def AV.ren (r : Nat → Nat) : AV → AV
  | .dead => .dead
  | .d x => .d x
  | .pvar id k => .pvar (r id) k
  | .parr id i k => .parr (r id) i k
  | .pval sz xs i k => .pval sz xs i k
  | .svalf sz xs => .svalf sz xs
  | .sfull id => .sfull (r id)
  | .spart id lo n => .spart (r id) lo n
  | .mapo id => .mapo (r id)
  | .func f cs => .func f (AV.renL r cs)
  | .yield id => .yield (r id)
  | .iface t v => .iface t (AV.ren r v)
  | .agg cs => .agg (AV.renL r cs)
  | .tup cs => .tup (AV.renL r cs)
def AV.renL (r : Nat → Nat) : List AV → List AV
  | [] => []
  | a :: l => AV.ren r a :: AV.renL r l
end
theorem AV.renL_map (r : Nat → Nat) : ∀ l, AV.renL r l = l.map (AV.ren r)
  | [] => rfl
  | a :: l => by simp [AV.renL, AV.renL_map r l]
def AObj.ren (r : Nat → Nat) : AObj → AObj
  | .none => .none
  | .var cs => .var (AV.renL r cs)
  | .arr ty sz xs => .arr ty sz xs
  | .map es => .map es
  | .mapb es bs clk => .mapb es bs clk
  | .iter m bs clk idx => .iter (r m) bs clk idx
  | .loop fn t ps a b st => .loop fn (AV.renL r t) ps a b st
  | .defr => .defr
theorem AObj.ren_live (r : Nat → Nat) (o : AObj) : (o.ren r).live = o.live := by cases o <;> rfl

section
variable {E : Env} {w w' : World} {F F' : Nat → Prop} {Γ Γ' Γ0 : List Slot} {H H' H0 : List AObj} {n0 : Nat}

theorem RV.up {r : Nat → Nat} (hΓ : ∀ id s, Γ0[id]? = some s → Γ[r id]? = some s) {av : AV} {v : Value} (h : RV w F Γ0 av v) : RV w F Γ (av.ren r) v := by
  induction h with
  | dead v => exact .dead v
  | d h => exact .d h
  | pvar hs hb => exact .pvar (hΓ _ _ hs) hb
  | parr hs hb => exact .parr (hΓ _ _ hs) hb
  | pval h hi => exact .pval h hi
  | svalf h => exact .svalf h
  | sfull hs hA => exact .sfull (hΓ _ _ hs) hA
  | spart hs hn ha => exact .spart (hΓ _ _ hs) hn ha
  | mapo hs hb => exact .mapo (hΓ _ _ hs) hb
  | func f cs vs hs hr ih =>
    simp only [AV.ren, AV.renL_map]
    refine .func f _ vs (by simpa using hs) (fun j d hj => ?_)
    rw [List.getElem?_map] at hj
    cases hx : cs[j]? with
    | none => simp [hx] at hj
    | some x => simp [hx] at hj; subst hj; exact ih j x hx
  | yield hs hb => exact .yield (hΓ _ _ hs) hb
  | iface t d v hr ih => exact .iface t _ v ih
  | agg cs vs hs h1 hr ih =>
    simp only [AV.ren, AV.renL_map]
    refine .agg _ vs (by simpa using hs) h1 (fun j d hj => ?_)
    rw [List.getElem?_map] at hj
    cases hx : cs[j]? with
    | none => simp [hx] at hj
    | some x => simp [hx] at hj; subst hj; exact ih j x hx
  | tup cs vs hs hr ih =>
    simp only [AV.ren, AV.renL_map]
    refine .tup _ vs (by simpa using hs) (fun j d hj => ?_)
    rw [List.getElem?_map] at hj
    cases hx : cs[j]? with
    | none => simp [hx] at hj
    | some x => simp [hx] at hj; subst hj; exact ih j x hx

/-- The slots that a value names lie below n. -/
inductive Bel (n : Nat) : AV → Prop
  | dead : Bel n .dead
  | d (x : D) : Bel n (.d x)
  | pvar {id k : Nat} (h : id < n) : Bel n (.pvar id k)
  | parr {id i k : Nat} (h : id < n) : Bel n (.parr id i k)
  | pval (sz : Nat) (xs : List (List D)) (i k : Nat) : Bel n (.pval sz xs i k)
  | svalf (sz : Nat) (xs : List (List D)) : Bel n (.svalf sz xs)
  | sfull {id : Nat} (h : id < n) : Bel n (.sfull id)
  | spart {id lo m : Nat} (h : id < n) : Bel n (.spart id lo m)
  | mapo {id : Nat} (h : id < n) : Bel n (.mapo id)
  | func (f : FuncId) (cs : List AV) (h : ∀ c ∈ cs, Bel n c) : Bel n (.func f cs)
  | yield {id : Nat} (h : id < n) : Bel n (.yield id)
  | iface (t : TypeId) (v : AV) (h : Bel n v) : Bel n (.iface t v)
  | agg (cs : List AV) (h : ∀ c ∈ cs, Bel n c) : Bel n (.agg cs)
  | tup (cs : List AV) (h : ∀ c ∈ cs, Bel n c) : Bel n (.tup cs)

mutual
def AV.bel (n : Nat) : AV → Bool
  | .dead => true
  | .d _ => true
  | .pvar id _ => decide (id < n)
  | .parr id _ _ => decide (id < n)
  | .pval _ _ _ _ => true
  | .svalf _ _ => true
  | .sfull id => decide (id < n)
  | .spart id _ _ => decide (id < n)
  | .mapo id => decide (id < n)
  | .func _ cs => AV.belL n cs
  | .yield id => decide (id < n)
  | .iface _ v => AV.bel n v
  | .agg cs => AV.belL n cs
  | .tup cs => AV.belL n cs
def AV.belL (n : Nat) : List AV → Bool
  | [] => true
  | a :: l => AV.bel n a && AV.belL n l
end
mutual
theorem AV.bel_ok (n : Nat) : ∀ (a : AV), a.bel n = true → Bel n a
  | .dead, _ => .dead
  | .d x, _ => .d x
  | .pvar id k, h => .pvar (by simpa [AV.bel] using h)
  | .parr id i k, h => .parr (by simpa [AV.bel] using h)
  | .pval sz xs i k, _ => .pval sz xs i k
  | .svalf sz xs, _ => .svalf sz xs
  | .sfull id, h => .sfull (by simpa [AV.bel] using h)
  | .spart id _ _, h => .spart (by simpa [AV.bel] using h)
  | .mapo id, h => .mapo (by simpa [AV.bel] using h)
  | .func f cs, h => .func f cs (AV.belL_ok n cs (by simpa [AV.bel] using h))
  | .yield id, h => .yield (by simpa [AV.bel] using h)
  | .iface t v, h => .iface t v (AV.bel_ok n v (by simpa [AV.bel] using h))
  | .agg cs, h => .agg cs (AV.belL_ok n cs (by simpa [AV.bel] using h))
  | .tup cs, h => .tup cs (AV.belL_ok n cs (by simpa [AV.bel] using h))
theorem AV.belL_ok (n : Nat) : ∀ (l : List AV), AV.belL n l = true → ∀ c ∈ l, Bel n c
  | [], _ => fun c hc => by cases hc
  | a :: l, h => fun c hc => by
    simp only [AV.belL, Bool.and_eq_true] at h
    have h1 := AV.bel_ok n a h.1
    have h2 := AV.belL_ok n l h.2
    rcases List.mem_cons.1 hc with e | hc
    · rw [e]; exact h1
    · exact h2 c hc
end
def AObj.bel (n : Nat) : AObj → Bool
  | .var cs => AV.belL n cs
  | .loop _ t _ _ _ _ => AV.belL n t
  | .iter m _ _ _ => decide (m < n)
  | _ => true

theorem RV.down {r : Nat → Nat} {n : Nat} (hΓ : ∀ id s, id < n → Γ[r id]? = some s → Γ0[id]? = some s) {av : AV} (hb : Bel n av) :
    ∀ {v : Value}, RV w F Γ (av.ren r) v → RV w F Γ0 av v := by
  induction hb with
  | dead => intro v h; exact .dead v
  | d x => intro v h; exact .d h.of_d
  | pvar hid => intro v h; simp only [AV.ren] at h; cases h with | pvar hs hb => exact .pvar (hΓ _ _ hid hs) hb
  | parr hid => intro v h; simp only [AV.ren] at h; cases h with | parr hs hb => exact .parr (hΓ _ _ hid hs) hb
  | pval sz xs i k => intro v h; simp only [AV.ren] at h; cases h with | pval h hi => exact .pval h hi
  | svalf sz xs => intro v h; simp only [AV.ren] at h; cases h with | svalf h => exact .svalf h
  | sfull hid => intro v h; simp only [AV.ren] at h; cases h with | sfull hs hA => exact .sfull (hΓ _ _ hid hs) hA
  | spart hid => intro v h; simp only [AV.ren] at h; cases h with | spart hs hn ha => exact .spart (hΓ _ _ hid hs) hn ha
  | mapo hid => intro v h; simp only [AV.ren] at h; cases h with | mapo hs hb => exact .mapo (hΓ _ _ hid hs) hb
  | func f cs hcs ih =>
    intro v h
    simp only [AV.ren, AV.renL_map] at h
    cases h with
    | func f cs' vs hs hr => exact .func f cs vs (by simpa using hs) fun j d hj => ih d (List.mem_of_getElem? hj) (hr j _ (by simp [hj]))
  | yield hid => intro v h; simp only [AV.ren] at h; cases h with | yield hs hb => exact .yield (hΓ _ _ hid hs) hb
  | iface t v' hv ih => intro v h; simp only [AV.ren] at h; cases h with | iface t d v hr => exact .iface t _ _ (ih hr)
  | agg cs hcs ih =>
    intro v h
    simp only [AV.ren, AV.renL_map] at h
    cases h with
    | agg cs' vs hs h1 hr => exact .agg cs vs (by simpa using hs) h1 fun j d hj => ih d (List.mem_of_getElem? hj) (hr j _ (by simp [hj]))
  | tup cs hcs ih =>
    intro v h
    simp only [AV.ren, AV.renL_map] at h
    cases h with
    | tup cs' vs hs hr => exact .tup cs vs (by simpa using hs) fun j d hj => ih d (List.mem_of_getElem? hj) (hr j _ (by simp [hj]))

/-- What names slots of a shorter list only, as is seen elsewhere, is described over the shorter list. -/
theorem RV.back {w0 : World} {F0 : Nat → Prop} (hΓ : ∀ (id : Nat) s, Γ0[id]? = some s → Γ[id]? = some s) {av : AV} {v0 : Value} (h0 : RV w0 F0 Γ0 av v0) :
    ∀ {v : Value}, RV w F Γ av v → RV w F Γ0 av v := by
  have key : ∀ {id : Nat} {s s' : Slot}, Γ0[id]? = some s' → Γ[id]? = some s → Γ0[id]? = some s := fun h1 h2 => by
    have := hΓ _ _ h1
    rw [h2] at this
    rw [this]; exact h1
  induction h0 with
  | dead => intro v h; exact .dead v
  | d x => intro v h; exact .d h.of_d
  | pvar hs0 => intro v h; cases h with | pvar hs hb => exact .pvar (key hs0 hs) hb
  | parr hs0 => intro v h; cases h with | parr hs hb => exact .parr (key hs0 hs) hb
  | pval _ _ => intro v h; cases h with | pval h hi => exact .pval h hi
  | svalf _ => intro v h; cases h with | svalf h => exact .svalf h
  | sfull hs0 => intro v h; cases h with | sfull hs hA => exact .sfull (key hs0 hs) hA
  | spart hs0 => intro v h; cases h with | spart hs hn ha => exact .spart (key hs0 hs) hn ha
  | mapo hs0 => intro v h; cases h with | mapo hs hb => exact .mapo (key hs0 hs) hb
  | func f cs vs0 hs0 hr0 ih => intro v h; cases h with | func f cs' vs hs hr => exact .func f cs vs hs fun j d hj => ih j d hj (hr j d hj)
  | yield hs0 => intro v h; cases h with | yield hs hb => exact .yield (key hs0 hs) hb
  | iface t d v0 hr0 ih => intro v h; cases h with | iface t d v hr => exact .iface t _ _ (ih hr)
  | agg cs vs0 hs0 _ hr0 ih => intro v h; cases h with | agg cs' vs hs h1 hr => exact .agg cs vs hs h1 fun j d hj => ih j d hj (hr j d hj)
  | tup cs vs0 hs0 hr0 ih => intro v h; cases h with | tup cs' vs hs hr => exact .tup cs vs hs fun j d hj => ih j d hj (hr j d hj)

theorem RO.up {r : Nat → Nat} (hΓ : ∀ id s, Γ0[id]? = some s → Γ[r id]? = some s) {s : Slot} {o : AObj} (h : RO w F Γ0 s o) : RO w F Γ s (o.ren r) := by
  cases o with
  | none => trivial
  | defr => exact h
  | map es => exact h
  | arr ty sz xs => exact h
  | mapb es bs clk => exact h
  | iter m bs clk idx =>
    obtain ⟨b, mb, sm, seen, h1, h2, h3⟩ := h
    exact ⟨b, mb, sm, seen, h1, hΓ _ _ h2, h3⟩
  | loop fn t ps assign body st =>
    obtain ⟨b, l, h1, h2, h3, h4, h5, h6, h7, h8, h9⟩ := h
    refine ⟨b, l, h1, h2, h3, h4, h5, h6, h7, by simpa [AV.renL_map] using h8, fun j av hj => ?_⟩
    rw [AV.renL_map, List.getElem?_map] at hj
    cases hx : t[j]? with
    | none => simp [hx] at hj
    | some x => simp [hx] at hj; subst hj; exact (h9 j x hx).up hΓ
  | var cs =>
    obtain ⟨b, c, ty, h1, h2, h3, h4⟩ := h
    refine ⟨b, c, ty, h1, h2, by simpa [AV.renL_map] using h3, fun j av hj => ?_⟩
    rw [AV.renL_map, List.getElem?_map] at hj
    cases hx : cs[j]? with
    | none => simp [hx] at hj
    | some x => simp [hx] at hj; subst hj; exact ⟨(h4 j x hx).1, (h4 j x hx).2.up hΓ⟩
theorem RO.down {r : Nat → Nat} {n : Nat} (hΓ : ∀ id s, id < n → Γ[r id]? = some s → Γ0[id]? = some s) {s : Slot} {o : AObj} (hb : o.bel n = true) (h : RO w F Γ s (o.ren r)) : RO w F Γ0 s o := by
  cases o with
  | none => trivial
  | defr => exact h
  | map es => exact h
  | arr ty sz xs => exact h
  | mapb es bs clk => exact h
  | iter m bs clk idx =>
    obtain ⟨b, mb, sm, seen, h1, h2, h3⟩ := h
    exact ⟨b, mb, sm, seen, h1, hΓ _ _ (by simpa [AObj.bel] using hb) h2, h3⟩
  | loop fn t ps assign body st =>
    obtain ⟨b, l, h1, h2, h3, h4, h5, h6, h7, h8, h9⟩ := h
    refine ⟨b, l, h1, h2, h3, h4, h5, h6, h7, by simpa [AV.renL_map] using h8, fun j av hj => ?_⟩
    exact (h9 j (av.ren r) (by rw [AV.renL_map, List.getElem?_map, hj]; rfl)).down hΓ (AV.belL_ok n t hb av (List.mem_of_getElem? hj))
  | var cs =>
    obtain ⟨b, c, ty, h1, h2, h3, h4⟩ := h
    refine ⟨b, c, ty, h1, h2, by simpa [AV.renL_map] using h3, fun j av hj => ?_⟩
    have := h4 j (av.ren r) (by rw [AV.renL_map, List.getElem?_map, hj]; rfl)
    exact ⟨this.1, this.2.down hΓ (AV.belL_ok n cs hb av (List.mem_of_getElem? hj))⟩
theorem RO.back {w0 : World} {F0 : Nat → Prop} {s0 : Slot} (hΓ : ∀ (id : Nat) s, Γ0[id]? = some s → Γ[id]? = some s) {s : Slot} {o : AObj} (h0 : RO w0 F0 Γ0 s0 o) (h : RO w F Γ s o) : RO w F Γ0 s o := by
  cases o with
  | none => trivial
  | defr => exact h
  | map es => exact h
  | arr ty sz xs => exact h
  | mapb es bs clk => exact h
  | iter m bs clk idx =>
    obtain ⟨b0, mb0, sm0, seen0, _, g2, _⟩ := h0
    obtain ⟨b, mb, sm, seen, h1, h2, h3⟩ := h
    rw [hΓ _ _ g2] at h2
    exact ⟨b, mb, sm, seen, h1, by rw [← h2]; exact g2, h3⟩
  | loop fn t ps assign body st =>
    obtain ⟨b0, l0, _, _, _, _, _, _, _, _, g9⟩ := h0
    obtain ⟨b, l, h1, h2, h3, h4, h5, h6, h7, h8, h9⟩ := h
    exact ⟨b, l, h1, h2, h3, h4, h5, h6, h7, h8, fun j av hj => (g9 j av hj).back hΓ (h9 j av hj)⟩
  | var cs =>
    obtain ⟨b0, c0, ty0, _, _, _, g4⟩ := h0
    obtain ⟨b, c, ty, h1, h2, h3, h4⟩ := h
    exact ⟨b, c, ty, h1, h2, h3, fun j av hj => ⟨(h4 j av hj).1, (g4 j av hj).2.back hΓ (h4 j av hj).2⟩⟩

/-! ### A contract used among more objects -/
def rn (σ : List Nat) (m : Nat) (id : Nat) : Nat := if id < σ.length then σ.getD id 0 else id - σ.length + m
def putAll : List Nat → List AObj → List AObj → List AObj
  | i :: σ, o :: os, H => putAll σ os (H.set i o)
  | _, _, H => H
def lift (σ : List Nat) (H H0 : List AObj) : List AObj := putAll σ (H0.map (AObj.ren (rn σ H.length))) H ++ (H0.drop σ.length).map (AObj.ren (rn σ H.length))

theorem putAll_length : ∀ (σ : List Nat) (os H : List AObj), (putAll σ os H).length = H.length
  | [], _, _ => by simp [putAll]
  | _ :: _, [], _ => by simp [putAll]
  | i :: σ, o :: os, H => by simp [putAll, putAll_length σ os]
theorem putAll_get : ∀ (σ : List Nat) (os H : List AObj) (i : Nat) (o : AObj), σ.length ≤ os.length → σ.Nodup → (putAll σ os H)[i]? = some o →
    (∃ j : Nat, σ[j]? = some i ∧ os[j]? = some o) ∨ (i ∉ σ ∧ H[i]? = some o)
  | [], _, H, i, o, _, _, h => .inr ⟨by simp, by simpa [putAll] using h⟩
  | _ :: _, [], _, _, _, hl, _, _ => by simp at hl
  | i0 :: σ, o0 :: os, H, i, o, hl, hnd, h => by
    simp only [putAll] at h
    rcases putAll_get σ os _ i o (by simpa using hl) (List.nodup_cons.1 hnd).2 h with ⟨j, h1, h2⟩ | ⟨h1, h2⟩
    · exact .inl ⟨j + 1, by simpa using h1, by simpa using h2⟩
    · rcases set_get h2 with ⟨rfl, rfl, hlt⟩ | ⟨hne, h3⟩
      · exact .inl ⟨0, by simp, by simp⟩
      · exact .inr ⟨by simp [h1]; exact fun e => hne e.symm, h3⟩

theorem rn_lt {σ : List Nat} {m id : Nat} (h : id < σ.length) : rn σ m id = σ[id] := by
  simp [rn, h, List.getD_eq_getElem?_getD]
theorem rn_ge {σ : List Nat} {m id : Nat} (h : σ.length ≤ id) : rn σ m id = id - σ.length + m := by
  simp [rn]; omega

/-- Whether few objects stand so among many. -/
structure Sb (σ : List Nat) (H H0 : List AObj) : Prop where
  len : H0.length = σ.length
  nd : σ.Nodup
  inH : ∀ i ∈ σ, i < H.length
  obj : ∀ (j i : Nat) (o : AObj), σ[j]? = some i → H0[j]? = some o → o.live = true → H[i]? = some (o.ren (rn σ H.length)) ∧ o.bel σ.length = true

def sg (σ : List Nat) (Γ : List Slot) : List Slot := σ.map fun i => Γ.getD i default

theorem sg_get {σ : List Nat} (hin : ∀ i ∈ σ, i < Γ.length) {j : Nat} {s : Slot} : (sg σ Γ)[j]? = some s ↔ ∃ i, σ[j]? = some i ∧ Γ[i]? = some s := by
  simp only [sg, List.getElem?_map]
  cases hj : σ[j]? with
  | none => simp
  | some i =>
    have hi := hin i (List.mem_of_getElem? hj)
    simp [List.getD_eq_getElem?_getD, hi]

theorem SR.sub (hS : SR E w F Γ H) {σ : List Nat} (hs : Sb σ H H0) : SR E w F (sg σ Γ) H0 ∧ (∀ b, LiveB (sg σ Γ) H0 b → LiveB Γ H b) := by
  have hin : ∀ i ∈ σ, i < Γ.length := fun i hi => by rw [hS.len]; exact hs.inH i hi
  have lv : ∀ {id : Nat} {s : Slot} {o : AObj}, (sg σ Γ)[id]? = some s → H0[id]? = some o → o.live = true → ∃ i, σ[id]? = some i ∧ Γ[i]? = some s ∧ H[i]? = some (o.ren (rn σ H.length)) := fun h1 h2 h3 => by
    obtain ⟨i, g1, g2⟩ := (sg_get hin).1 h1
    exact ⟨i, g1, g2, (hs.obj _ i _ g1 h2 h3).1⟩
  refine ⟨⟨by simp [sg, hs.len], ?_, ?_, ?_, hS.low, hS.glob⟩, ?_⟩
  · intro id s o h1 h2
    cases hl : o.live with
    | false => cases o <;> simp [AObj.live] at hl; trivial
    | true =>
      obtain ⟨i, g1, g2, g3⟩ := lv h1 h2 hl
      refine (hS.obj i s _ g2 g3).down (r := rn σ H.length) (fun id s hid hg => ?_) (hs.obj _ i _ g1 h2 hl).2
      rw [rn_lt hid] at hg
      exact (sg_get hin).2 ⟨_, List.getElem?_eq_getElem hid, hg⟩
  · intro id s o b h1 h2 h3 h4
    obtain ⟨i, g1, g2, g3⟩ := lv h1 h2 h3
    exact hS.sep i s _ b g2 g3 (by rw [AObj.ren_live]; exact h3) h4
  · intro i j si sj oi oj b h1 h2 h3 h4 h5 h6 h7 h8
    obtain ⟨i', g1, g2, g3⟩ := lv h1 h3 h5
    obtain ⟨j', k1, k2, k3⟩ := lv h2 h4 h6
    have e := hS.inj i' j' si sj _ _ b g2 k2 g3 k3 (by rw [AObj.ren_live]; exact h5) (by rw [AObj.ren_live]; exact h6) h7 h8
    subst e
    obtain ⟨a1, a2⟩ := List.getElem?_eq_some_iff.1 g1
    obtain ⟨b1, b2⟩ := List.getElem?_eq_some_iff.1 k1
    exact (List.getElem_inj hs.nd).1 (a2.trans b2.symm)
  · rintro b ⟨id, s, o, h1, h2, h3, h4⟩
    obtain ⟨i, g1, g2, g3⟩ := lv h1 h2 h3
    exact ⟨i, s, _, g2, g3, by rw [AObj.ren_live]; exact h3, h4⟩

theorem ACalls.frame {g : FuncId} {args0 args : List AV} {K0 K : AV → List AObj → Prop} (h : ACalls E g args0 H0 K0) (σ : List Nat) (hs : Sb σ H H0)
    (ha : args = args0.map (AV.ren (rn σ H.length))) (hb : AV.belL σ.length args0 = true) (hK : ∀ v0 H0', K0 v0 H0' → K (v0.ren (rn σ H.length)) (lift σ H H0')) : ACalls E g args H K := by
  refine ⟨h.1, fun w F Γ vs hS hV => ?_⟩
  subst ha
  have hin : ∀ i ∈ σ, i < Γ.length := fun i hi => by rw [hS.len]; exact hs.inH i hi
  obtain ⟨hS0, hL0⟩ := hS.sub hs
  have hdown : ∀ id s, id < σ.length → Γ[rn σ H.length id]? = some s → (sg σ Γ)[id]? = some s := fun id s hid hg => by
    rw [rn_lt hid] at hg
    exact (sg_get hin).2 ⟨_, List.getElem?_eq_getElem hid, hg⟩
  have hV0 : RVL w F (sg σ Γ) args0 vs := ⟨by simpa using hV.1, fun j av hj => (hV.2 j (av.ren _) (by simp [hj])).down hdown (AV.belL_ok _ _ hb av (List.mem_of_getElem? hj))⟩
  refine (h.2 w F (sg σ Γ) vs hS0 hV0).mono ?_
  rintro e w' ⟨v, v0, H0', F', Γ0', rfl, hS', hv', hK0, hX⟩
  have hn : H0.length = σ.length := hs.len
  have hn' : σ.length ≤ Γ0'.length := by rw [← hn]; exact hX.nlen
  have hG : H.length = Γ.length := hS.len.symm
  -- the new list of slots
  have hup : ∀ id s, Γ0'[id]? = some s → (Γ ++ Γ0'.drop σ.length)[rn σ H.length id]? = some s := fun id s hid => by
    by_cases hlt : id < σ.length
    · rw [rn_lt hlt]
      rw [hX.pre id (by omega)] at hid
      obtain ⟨i, h1, h2⟩ := (sg_get hin).1 hid
      rw [List.getElem?_eq_getElem hlt] at h1
      obtain rfl := Option.some.inj h1
      rw [List.getElem?_append_left (List.getElem?_eq_some_iff.1 h2).1]; exact h2
    · rw [rn_ge (by omega), List.getElem?_append_right (by omega), List.getElem?_drop, hG]
      rw [show σ.length + (id - σ.length + Γ.length - Γ.length) = id by omega]
      exact hid
  have hstay := hX.stay hS0
  have hpre : ∀ (id : Nat) s, Γ[id]? = some s → (Γ ++ Γ0'.drop σ.length)[id]? = some s := fun id s hid => by
    rw [List.getElem?_append_left (List.getElem?_eq_some_iff.1 hid).1]; exact hid
  -- where an object of the new state comes from
  have org : ∀ i o, (lift σ H H0')[i]? = some o → (∃ id o0, i = rn σ H.length id ∧ H0'[id]? = some o0 ∧ o = o0.ren (rn σ H.length)) ∨ (i < H.length ∧ i ∉ σ ∧ H[i]? = some o) := fun i o hi => by
    unfold lift at hi
    have hl0 : σ.length ≤ H0'.length := by rw [← hS'.len]; exact hn'
    by_cases hlt : i < H.length
    · rw [List.getElem?_append_left (by rw [putAll_length]; exact hlt)] at hi
      rcases putAll_get σ _ H i o (by simpa using hl0) hs.nd hi with ⟨j, h1, h2⟩ | ⟨h1, h2⟩
      · rw [List.getElem?_map] at h2
        cases hx : H0'[j]? with
        | none => simp [hx] at h2
        | some o0 =>
          simp [hx] at h2
          obtain ⟨hj, hj'⟩ := List.getElem?_eq_some_iff.1 h1
          exact .inl ⟨j, o0, by rw [rn_lt hj]; exact hj'.symm, hx, h2.symm⟩
      · exact .inr ⟨hlt, h1, h2⟩
    · rw [List.getElem?_append_right (by rw [putAll_length]; omega), putAll_length, List.getElem?_map, List.getElem?_drop] at hi
      cases hx : H0'[σ.length + (i - H.length)]? with
      | none => simp [hx] at hi
      | some o0 =>
        simp [hx] at hi
        exact .inl ⟨_, o0, by rw [rn_ge (by omega)]; omega, hx, hi.symm⟩
  -- its slot
  have slot : ∀ {id : Nat} {s : Slot} {o0 : AObj}, H0'[id]? = some o0 → (Γ ++ Γ0'.drop σ.length)[rn σ H.length id]? = some s → Γ0'[id]? = some s := fun {id s o0} h1 h2 => by
    have hid : id < Γ0'.length := by rw [hS'.len]; exact (List.getElem?_eq_some_iff.1 h1).1
    have := hup id _ (List.getElem?_eq_getElem hid)
    rw [h2] at this
    rw [List.getElem?_eq_getElem hid]; exact this.symm
  have slotO : ∀ {i : Nat} {s : Slot}, i < H.length → (Γ ++ Γ0'.drop σ.length)[i]? = some s → Γ[i]? = some s := fun {i s} h1 h2 => by
    rwa [List.getElem?_append_left (by omega)] at h2
  -- an untouched live object's block
  have unt : ∀ {i b : Nat} {s : Slot} {o : AObj}, i ∉ σ → Γ[i]? = some s → H[i]? = some o → o.live = true → s.b = some b → b < w.heap.size ∧ ¬ LiveB (sg σ Γ) H0 b := fun {i b s o} h1 h2 h3 h4 h5 => by
    refine ⟨live_lt hS ⟨i, s, o, h2, h3, h4, h5⟩, ?_⟩
    rintro ⟨id, s', o', g1, g2, g3, g4⟩
    obtain ⟨i', k1, k2⟩ := (sg_get hin).1 g1
    have k3 := (hs.obj _ i' _ k1 g2 g3).1
    have e := hS.inj i i' s s' o _ b h2 k2 h3 k3 h4 (by rw [AObj.ren_live]; exact g3) h5 g4
    exact h1 (e ▸ List.mem_of_getElem? k1)
  have untF : ∀ {i b : Nat} {s : Slot} {o : AObj}, i ∉ σ → Γ[i]? = some s → H[i]? = some o → o.live = true → s.b = some b → ¬ F' b ∧ ¬ LiveB Γ0' H0' b := fun {i b s o} h1 h2 h3 h4 h5 => by
    obtain ⟨k1, k2⟩ := unt h1 h2 h3 h4 h5
    refine ⟨fun hf => ?_, fun hl => k2 (hX.live b hl k1)⟩
    rcases hX.new b hf k1 with hf | hl
    · exact hS.sep i s o b h2 h3 h4 h5 hf
    · exact k2 hl
  refine ⟨v, v0.ren (rn σ H.length), lift σ H H0', F', Γ ++ Γ0'.drop σ.length, rfl, ?_, hv'.up hup, hK v0 H0' hK0, ?_⟩
  · refine ⟨?_, ?_, ?_, ?_, hS'.low, hS'.glob⟩
    · simp only [lift, List.length_append, putAll_length, List.length_map, List.length_drop, hS.len, hS'.len]
    · intro i s o h1 h2
      rcases org i o h2 with ⟨id, o0, rfl, g1, rfl⟩ | ⟨g1, g2, g3⟩
      · exact (hS'.obj id s o0 (slot g1 h1) g1).up hup
      · have h1' := slotO g1 h1
        have hro := hS.obj i s o h1' g3
        exact hro.mono hX.sub hstay hpre fun b hb hl => by
          obtain ⟨u1, u2⟩ := unt g2 h1' g3 hl hb
          exact hX.unch b u1 u2
    · intro i s o b h1 h2 h3 h4
      rcases org i o h2 with ⟨id, o0, rfl, g1, rfl⟩ | ⟨g1, g2, g3⟩
      · exact hS'.sep id s o0 b (slot g1 h1) g1 (by rw [← AObj.ren_live]; exact h3) h4
      · exact (untF g2 (slotO g1 h1) g3 h3 h4).1
    · intro i j si sj oi oj b h1 h2 h3 h4 h5 h6 h7 h8
      rcases org i oi h3 with ⟨id, o0, rfl, g1, rfl⟩ | ⟨g1, g2, g3⟩ <;> rcases org j oj h4 with ⟨jd, p0, rfl, k1, rfl⟩ | ⟨k1, k2, k3⟩
      · rw [hS'.inj id jd si sj o0 p0 b (slot g1 h1) (slot k1 h2) g1 k1 (by rw [← AObj.ren_live]; exact h5) (by rw [← AObj.ren_live]; exact h6) h7 h8]
      · exact absurd ⟨id, si, o0, slot g1 h1, g1, by rw [← AObj.ren_live]; exact h5, h7⟩ (untF k2 (slotO k1 h2) k3 h6 h8).2
      · exact absurd ⟨jd, sj, p0, slot k1 h2, k1, by rw [← AObj.ren_live]; exact h6, h8⟩ (untF g2 (slotO g1 h1) g3 h5 h7).2
      · exact hS.inj i j si sj oi oj b (slotO g1 h1) (slotO k1 h2) g3 k3 h5 h6 h7 h8
  · refine ⟨hX.os, hX.tape, hX.output, hX.size, fun b hb hl => hX.unch b hb fun hl' => hl (hL0 b hl'), hX.sub, fun b hb hlt => ?_, ?_, ?_, ?_⟩
    · rcases hX.new b hb hlt with h | h
      · exact .inl h
      · exact .inr (hL0 b h)
    · rintro b ⟨i, s, o, h1, h2, h3, h4⟩ hlt
      rcases org i o h2 with ⟨id, o0, rfl, g1, rfl⟩ | ⟨g1, g2, g3⟩
      · exact hL0 b (hX.live b ⟨id, s, o0, slot g1 h1, g1, by rw [← AObj.ren_live]; exact h3, h4⟩ hlt)
      · exact ⟨i, s, o, slotO g1 h1, g3, h3, h4⟩
    · intro id hid
      rw [List.getElem?_append_left (by omega)]
    · simp [hG]
end
end Go.Abs
