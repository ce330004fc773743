/-
  A function's contract from its body; the same state told in another way; a contract over few objects, used among many.
  A function's contract from its body; the same state told in another way.
  The facts that a program's tables must bear out.
  What a walk's reader needs beside the rules: arguments told more weakly, whole numbers in rows, wraps.
  The walk's rules, as a rewriting takes them: what stands behind an operation is never looked into before its turn.
  From a walk to the given statement: what an argument reads as, and what stands behind the call.
  What an argument reads as: structs, arrays are left out.
  Values of flat structs, compared part by part.
  Keys that are flat structs.
  Contracts over a few objects, used among more; maps from whole numbers, by value.
-/
import Derived.Test.YtmeicgbddgeeoaaGreatDoorA2
import Derived.Laws.Externs
import Derived.ProofKit
import Derived.ChangeKeysEq
import Derived.Test.YtmeicgbddgeeoaaGreatDoorA1
section
set_option autoImplicit false
set_option linter.unusedVariables false
set_option linter.unusedSimpArgs false
namespace Go.Abs
/-! ### Renumbering -/
mutual
def AV.ren (r : Nat → Nat) : AV → AV
 | .dead => .dead
 | .d x => .d x
 | .pvar id k => .pvar (r id) k
 | .parr id i k => .parr (r id) i k
 | .pval sz xs i k => .pval sz xs i k
 | .svalf sz xs => .svalf sz xs
 | .sfull id => .sfull (r id)
 | .spart id lo n => .spart (r id) lo n
 | .mapo id => .mapo (r id)
 | .func f cs => .func f (AV.renL r cs)
 | .yield id => .yield (r id)
 | .iface t v => .iface t (AV.ren r v)
 | .agg cs => .agg (AV.renL r cs)
 | .tup cs => .tup (AV.renL r cs)
def AV.renL (r : Nat → Nat) : List AV → List AV
 | [] => []
 | a :: l => AV.ren r a :: AV.renL r l
end
theorem AV.renL_map (r : Nat → Nat) : ∀ l, AV.renL r l = l.map (AV.ren r)
 | [] => rfl
 | a :: l => by simp [AV.renL, AV.renL_map r l]
def AObj.ren (r : Nat → Nat) : AObj → AObj
 | .none => .none
 | .var cs => .var (AV.renL r cs)
 | .arr ty sz xs => .arr ty sz xs
 | .map es => .map es
 | .mapb es bs clk => .mapb es bs clk
 | .iter m bs clk idx => .iter (r m) bs clk idx
 | .loop fn t ps a b st => .loop fn (AV.renL r t) ps a b st
 | .defr => .defr
theorem AObj.ren_live (r : Nat → Nat) (o : AObj) : (o.ren r).live = o.live := by cases o <;> rfl
section
variable {E : Env} {w w' : World} {F F' : Nat → Prop} {Γ Γ' Γ0 : List Slot} {H H' H0 : List AObj} {n0 : Nat}
theorem RV.up {r : Nat → Nat} (hΓ : ∀ id s, Γ0[id]? = some s → Γ[r id]? = some s) {av : AV} {v : Value} (h : RV w F Γ0 av v) : RV w F Γ (av.ren r) v := by
 induction h with
 | dead v => exact .dead v
 | d h => exact .d h
 | pvar hs hb => exact .pvar (hΓ _ _ hs) hb
 | parr hs hb => exact .parr (hΓ _ _ hs) hb
 | pval h hi => exact .pval h hi
 | svalf h => exact .svalf h
 | sfull hs hA => exact .sfull (hΓ _ _ hs) hA
 | spart hs hn ha => exact .spart (hΓ _ _ hs) hn ha
 | mapo hs hb => exact .mapo (hΓ _ _ hs) hb
 | func f cs vs hs hr ih =>
  simp only [AV.ren, AV.renL_map]
  refine .func f _ vs (by simpa using hs) (fun j d hj => ?_)
  rw [List.getElem?_map] at hj
  cases hx : cs[j]? with
  | none => simp [hx] at hj
  | some x => simp [hx] at hj; subst hj; exact ih j x hx
 | yield hs hb => exact .yield (hΓ _ _ hs) hb
 | iface t d v hr ih => exact .iface t _ v ih
 | agg cs vs hs h1 hr ih =>
  simp only [AV.ren, AV.renL_map]
  refine .agg _ vs (by simpa using hs) h1 (fun j d hj => ?_)
  rw [List.getElem?_map] at hj
  cases hx : cs[j]? with
  | none => simp [hx] at hj
  | some x => simp [hx] at hj; subst hj; exact ih j x hx
 | tup cs vs hs hr ih =>
  simp only [AV.ren, AV.renL_map]
  refine .tup _ vs (by simpa using hs) (fun j d hj => ?_)
  rw [List.getElem?_map] at hj
  cases hx : cs[j]? with
  | none => simp [hx] at hj
  | some x => simp [hx] at hj; subst hj; exact ih j x hx
inductive Bel (n : Nat) : AV → Prop
 | dead : Bel n .dead
 | d (x : D) : Bel n (.d x)
 | pvar {id k : Nat} (h : id < n) : Bel n (.pvar id k)
 | parr {id i k : Nat} (h : id < n) : Bel n (.parr id i k)
 | pval (sz : Nat) (xs : List (List D)) (i k : Nat) : Bel n (.pval sz xs i k)
 | svalf (sz : Nat) (xs : List (List D)) : Bel n (.svalf sz xs)
 | sfull {id : Nat} (h : id < n) : Bel n (.sfull id)
 | spart {id lo m : Nat} (h : id < n) : Bel n (.spart id lo m)
 | mapo {id : Nat} (h : id < n) : Bel n (.mapo id)
 | func (f : FuncId) (cs : List AV) (h : ∀ c ∈ cs, Bel n c) : Bel n (.func f cs)
 | yield {id : Nat} (h : id < n) : Bel n (.yield id)
 | iface (t : TypeId) (v : AV) (h : Bel n v) : Bel n (.iface t v)
 | agg (cs : List AV) (h : ∀ c ∈ cs, Bel n c) : Bel n (.agg cs)
 | tup (cs : List AV) (h : ∀ c ∈ cs, Bel n c) : Bel n (.tup cs)
mutual
def AV.bel (n : Nat) : AV → Bool
 | .dead => true
 | .d _ => true
 | .pvar id _ => decide (id < n)
 | .parr id _ _ => decide (id < n)
 | .pval _ _ _ _ => true
 | .svalf _ _ => true
 | .sfull id => decide (id < n)
 | .spart id _ _ => decide (id < n)
 | .mapo id => decide (id < n)
 | .func _ cs => AV.belL n cs
 | .yield id => decide (id < n)
 | .iface _ v => AV.bel n v
 | .agg cs => AV.belL n cs
 | .tup cs => AV.belL n cs
def AV.belL (n : Nat) : List AV → Bool
 | [] => true
 | a :: l => AV.bel n a && AV.belL n l
end
mutual
theorem AV.bel_ok (n : Nat) : ∀ (a : AV), a.bel n = true → Bel n a
 | .dead, _ => .dead
 | .d x, _ => .d x
 | .pvar id k, h => .pvar (by simpa [AV.bel] using h)
 | .parr id i k, h => .parr (by simpa [AV.bel] using h)
 | .pval sz xs i k, _ => .pval sz xs i k
 | .svalf sz xs, _ => .svalf sz xs
 | .sfull id, h => .sfull (by simpa [AV.bel] using h)
 | .spart id _ _, h => .spart (by simpa [AV.bel] using h)
 | .mapo id, h => .mapo (by simpa [AV.bel] using h)
 | .func f cs, h => .func f cs (AV.belL_ok n cs (by simpa [AV.bel] using h))
 | .yield id, h => .yield (by simpa [AV.bel] using h)
 | .iface t v, h => .iface t v (AV.bel_ok n v (by simpa [AV.bel] using h))
 | .agg cs, h => .agg cs (AV.belL_ok n cs (by simpa [AV.bel] using h))
 | .tup cs, h => .tup cs (AV.belL_ok n cs (by simpa [AV.bel] using h))
theorem AV.belL_ok (n : Nat) : ∀ (l : List AV), AV.belL n l = true → ∀ c ∈ l, Bel n c
 | [], _ => fun c hc => by cases hc
 | a :: l, h => fun c hc => by
  simp only [AV.belL, Bool.and_eq_true] at h
  have h1 := AV.bel_ok n a h.1
  have h2 := AV.belL_ok n l h.2
  rcases List.mem_cons.1 hc with e | hc
  ·rw [e]; exact h1
  ·exact h2 c hc
end
def AObj.bel (n : Nat) : AObj → Bool
 | .var cs => AV.belL n cs
 | .loop _ t _ _ _ _ => AV.belL n t
 | .iter m _ _ _ => decide (m < n)
 | _ => true
theorem RV.down {r : Nat → Nat} {n : Nat} (hΓ : ∀ id s, id < n → Γ[r id]? = some s → Γ0[id]? = some s) {av : AV} (hb : Bel n av) :
  ∀ {v : Value}, RV w F Γ (av.ren r) v → RV w F Γ0 av v := by
 induction hb with
 | dead => intro v h; exact .dead v
 | d x => intro v h; exact .d h.of_d
 | pvar hid => intro v h; simp only [AV.ren] at h; cases h with | pvar hs hb => exact .pvar (hΓ _ _ hid hs) hb
 | parr hid => intro v h; simp only [AV.ren] at h; cases h with | parr hs hb => exact .parr (hΓ _ _ hid hs) hb
 | pval sz xs i k => intro v h; simp only [AV.ren] at h; cases h with | pval h hi => exact .pval h hi
 | svalf sz xs => intro v h; simp only [AV.ren] at h; cases h with | svalf h => exact .svalf h
 | sfull hid => intro v h; simp only [AV.ren] at h; cases h with | sfull hs hA => exact .sfull (hΓ _ _ hid hs) hA
 | spart hid => intro v h; simp only [AV.ren] at h; cases h with | spart hs hn ha => exact .spart (hΓ _ _ hid hs) hn ha
 | mapo hid => intro v h; simp only [AV.ren] at h; cases h with | mapo hs hb => exact .mapo (hΓ _ _ hid hs) hb
 | func f cs hcs ih =>
  intro v h
  simp only [AV.ren, AV.renL_map] at h
  cases h with
  | func f cs' vs hs hr => exact .func f cs vs (by simpa using hs) fun j d hj => ih d (List.mem_of_getElem? hj) (hr j _ (by simp [hj]))
 | yield hid => intro v h; simp only [AV.ren] at h; cases h with | yield hs hb => exact .yield (hΓ _ _ hid hs) hb
 | iface t v' hv ih => intro v h; simp only [AV.ren] at h; cases h with | iface t d v hr => exact .iface t _ _ (ih hr)
 | agg cs hcs ih =>
  intro v h
  simp only [AV.ren, AV.renL_map] at h
  cases h with
  | agg cs' vs hs h1 hr => exact .agg cs vs (by simpa using hs) h1 fun j d hj => ih d (List.mem_of_getElem? hj) (hr j _ (by simp [hj]))
 | tup cs hcs ih =>
  intro v h
  simp only [AV.ren, AV.renL_map] at h
  cases h with
  | tup cs' vs hs hr => exact .tup cs vs (by simpa using hs) fun j d hj => ih d (List.mem_of_getElem? hj) (hr j _ (by simp [hj]))
theorem RV.back {w0 : World} {F0 : Nat → Prop} (hΓ : ∀ (id : Nat) s, Γ0[id]? = some s → Γ[id]? = some s) {av : AV} {v0 : Value} (h0 : RV w0 F0 Γ0 av v0) :
  ∀ {v : Value}, RV w F Γ av v → RV w F Γ0 av v := by
 have key : ∀ {id : Nat} {s s' : Slot}, Γ0[id]? = some s' → Γ[id]? = some s → Γ0[id]? = some s := fun h1 h2 => by
  have := hΓ _ _ h1
  rw [h2] at this
  rw [this]; exact h1
 induction h0 with
 | dead => intro v h; exact .dead v
 | d x => intro v h; exact .d h.of_d
 | pvar hs0 => intro v h; cases h with | pvar hs hb => exact .pvar (key hs0 hs) hb
 | parr hs0 => intro v h; cases h with | parr hs hb => exact .parr (key hs0 hs) hb
 | pval _ _ => intro v h; cases h with | pval h hi => exact .pval h hi
 | svalf _ => intro v h; cases h with | svalf h => exact .svalf h
 | sfull hs0 => intro v h; cases h with | sfull hs hA => exact .sfull (key hs0 hs) hA
 | spart hs0 => intro v h; cases h with | spart hs hn ha => exact .spart (key hs0 hs) hn ha
 | mapo hs0 => intro v h; cases h with | mapo hs hb => exact .mapo (key hs0 hs) hb
 | func f cs vs0 hs0 hr0 ih => intro v h; cases h with | func f cs' vs hs hr => exact .func f cs vs hs fun j d hj => ih j d hj (hr j d hj)
 | yield hs0 => intro v h; cases h with | yield hs hb => exact .yield (key hs0 hs) hb
 | iface t d v0 hr0 ih => intro v h; cases h with | iface t d v hr => exact .iface t _ _ (ih hr)
 | agg cs vs0 hs0 _ hr0 ih => intro v h; cases h with | agg cs' vs hs h1 hr => exact .agg cs vs hs h1 fun j d hj => ih j d hj (hr j d hj)
 | tup cs vs0 hs0 hr0 ih => intro v h; cases h with | tup cs' vs hs hr => exact .tup cs vs hs fun j d hj => ih j d hj (hr j d hj)
theorem RO.up {r : Nat → Nat} (hΓ : ∀ id s, Γ0[id]? = some s → Γ[r id]? = some s) {s : Slot} {o : AObj} (h : RO w F Γ0 s o) : RO w F Γ s (o.ren r) := by
 cases o with
 | none => trivial
 | defr => exact h
 | map es => exact h
 | arr ty sz xs => exact h
 | mapb es bs clk => exact h
 | iter m bs clk idx =>
  obtain ⟨b, mb, sm, seen, h1, h2, h3⟩ := h
  exact ⟨b, mb, sm, seen, h1, hΓ _ _ h2, h3⟩
 | loop fn t ps assign body st =>
  obtain ⟨b, l, h1, h2, h3, h4, h5, h6, h7, h8, h9⟩ := h
  refine ⟨b, l, h1, h2, h3, h4, h5, h6, h7, by simpa [AV.renL_map] using h8, fun j av hj => ?_⟩
  rw [AV.renL_map, List.getElem?_map] at hj
  cases hx : t[j]? with
  | none => simp [hx] at hj
  | some x => simp [hx] at hj; subst hj; exact (h9 j x hx).up hΓ
 | var cs =>
  obtain ⟨b, c, ty, h1, h2, h3, h4⟩ := h
  refine ⟨b, c, ty, h1, h2, by simpa [AV.renL_map] using h3, fun j av hj => ?_⟩
  rw [AV.renL_map, List.getElem?_map] at hj
  cases hx : cs[j]? with
  | none => simp [hx] at hj
  | some x => simp [hx] at hj; subst hj; exact ⟨(h4 j x hx).1, (h4 j x hx).2.up hΓ⟩
theorem RO.down {r : Nat → Nat} {n : Nat} (hΓ : ∀ id s, id < n → Γ[r id]? = some s → Γ0[id]? = some s) {s : Slot} {o : AObj} (hb : o.bel n = true) (h : RO w F Γ s (o.ren r)) : RO w F Γ0 s o := by
 cases o with
 | none => trivial
 | defr => exact h
 | map es => exact h
 | arr ty sz xs => exact h
 | mapb es bs clk => exact h
 | iter m bs clk idx =>
  obtain ⟨b, mb, sm, seen, h1, h2, h3⟩ := h
  exact ⟨b, mb, sm, seen, h1, hΓ _ _ (by simpa [AObj.bel] using hb) h2, h3⟩
 | loop fn t ps assign body st =>
  obtain ⟨b, l, h1, h2, h3, h4, h5, h6, h7, h8, h9⟩ := h
  refine ⟨b, l, h1, h2, h3, h4, h5, h6, h7, by simpa [AV.renL_map] using h8, fun j av hj => ?_⟩
  exact (h9 j (av.ren r) (by rw [AV.renL_map, List.getElem?_map, hj]; rfl)).down hΓ (AV.belL_ok n t hb av (List.mem_of_getElem? hj))
 | var cs =>
  obtain ⟨b, c, ty, h1, h2, h3, h4⟩ := h
  refine ⟨b, c, ty, h1, h2, by simpa [AV.renL_map] using h3, fun j av hj => ?_⟩
  have := h4 j (av.ren r) (by rw [AV.renL_map, List.getElem?_map, hj]; rfl)
  exact ⟨this.1, this.2.down hΓ (AV.belL_ok n cs hb av (List.mem_of_getElem? hj))⟩
theorem RO.back {w0 : World} {F0 : Nat → Prop} {s0 : Slot} (hΓ : ∀ (id : Nat) s, Γ0[id]? = some s → Γ[id]? = some s) {s : Slot} {o : AObj} (h0 : RO w0 F0 Γ0 s0 o) (h : RO w F Γ s o) : RO w F Γ0 s o := by
 cases o with
 | none => trivial
 | defr => exact h
 | map es => exact h
 | arr ty sz xs => exact h
 | mapb es bs clk => exact h
 | iter m bs clk idx =>
  obtain ⟨b0, mb0, sm0, seen0, _, g2, _⟩ := h0
  obtain ⟨b, mb, sm, seen, h1, h2, h3⟩ := h
  rw [hΓ _ _ g2] at h2
  exact ⟨b, mb, sm, seen, h1, by rw [← h2]; exact g2, h3⟩
 | loop fn t ps assign body st =>
  obtain ⟨b0, l0, _, _, _, _, _, _, _, _, g9⟩ := h0
  obtain ⟨b, l, h1, h2, h3, h4, h5, h6, h7, h8, h9⟩ := h
  exact ⟨b, l, h1, h2, h3, h4, h5, h6, h7, h8, fun j av hj => (g9 j av hj).back hΓ (h9 j av hj)⟩
 | var cs =>
  obtain ⟨b0, c0, ty0, _, _, _, g4⟩ := h0
  obtain ⟨b, c, ty, h1, h2, h3, h4⟩ := h
  exact ⟨b, c, ty, h1, h2, h3, fun j av hj => ⟨(h4 j av hj).1, (g4 j av hj).2.back hΓ (h4 j av hj).2⟩⟩
/-! ### A contract used among more objects -/
def rn (σ : List Nat) (m : Nat) (id : Nat) : Nat := if id < σ.length then σ.getD id 0 else id - σ.length + m
def putAll : List Nat → List AObj → List AObj → List AObj
 | i :: σ, o :: os, H => putAll σ os (H.set i o)
 | _, _, H => H
def lift (σ : List Nat) (H H0 : List AObj) : List AObj := putAll σ (H0.map (AObj.ren (rn σ H.length))) H ++ (H0.drop σ.length).map (AObj.ren (rn σ H.length))
theorem putAll_length : ∀ (σ : List Nat) (os H : List AObj), (putAll σ os H).length = H.length
 | [], _, _ => by simp [putAll]
 | _ :: _, [], _ => by simp [putAll]
 | i :: σ, o :: os, H => by simp [putAll, putAll_length σ os]
theorem putAll_get : ∀ (σ : List Nat) (os H : List AObj) (i : Nat) (o : AObj), σ.length ≤ os.length → σ.Nodup → (putAll σ os H)[i]? = some o →
  (∃ j : Nat, σ[j]? = some i ∧ os[j]? = some o) ∨ (i ∉ σ ∧ H[i]? = some o)
 | [], _, H, i, o, _, _, h => .inr ⟨by simp, by simpa [putAll] using h⟩
 | _ :: _, [], _, _, _, hl, _, _ => by simp at hl
 | i0 :: σ, o0 :: os, H, i, o, hl, hnd, h => by
  simp only [putAll] at h
  rcases putAll_get σ os _ i o (by simpa using hl) (List.nodup_cons.1 hnd).2 h with ⟨j, h1, h2⟩ | ⟨h1, h2⟩
  ·exact .inl ⟨j + 1, by simpa using h1, by simpa using h2⟩
  ·rcases set_get h2 with ⟨rfl, rfl, hlt⟩ | ⟨hne, h3⟩
   ·exact .inl ⟨0, by simp, by simp⟩
   ·exact .inr ⟨by simp [h1]; exact fun e => hne e.symm, h3⟩
theorem rn_lt {σ : List Nat} {m id : Nat} (h : id < σ.length) : rn σ m id = σ[id] := by
 simp [rn, h, List.getD_eq_getElem?_getD]
theorem rn_ge {σ : List Nat} {m id : Nat} (h : σ.length ≤ id) : rn σ m id = id - σ.length + m := by
 simp [rn]; omega
structure Sb (σ : List Nat) (H H0 : List AObj) : Prop where
 len : H0.length = σ.length
 nd : σ.Nodup
 inH : ∀ i ∈ σ, i < H.length
 obj : ∀ (j i : Nat) (o : AObj), σ[j]? = some i → H0[j]? = some o → o.live = true → H[i]? = some (o.ren (rn σ H.length)) ∧ o.bel σ.length = true
def sg (σ : List Nat) (Γ : List Slot) : List Slot := σ.map fun i => Γ.getD i default
theorem sg_get {σ : List Nat} (hin : ∀ i ∈ σ, i < Γ.length) {j : Nat} {s : Slot} : (sg σ Γ)[j]? = some s ↔ ∃ i, σ[j]? = some i ∧ Γ[i]? = some s := by
 simp only [sg, List.getElem?_map]
 cases hj : σ[j]? with
 | none => simp
 | some i =>
  have hi := hin i (List.mem_of_getElem? hj)
  simp [List.getD_eq_getElem?_getD, hi]
theorem SR.sub (hS : SR E w F Γ H) {σ : List Nat} (hs : Sb σ H H0) : SR E w F (sg σ Γ) H0 ∧ (∀ b, LiveB (sg σ Γ) H0 b → LiveB Γ H b) := by
 have hin : ∀ i ∈ σ, i < Γ.length := fun i hi => by rw [hS.len]; exact hs.inH i hi
 have lv : ∀ {id : Nat} {s : Slot} {o : AObj}, (sg σ Γ)[id]? = some s → H0[id]? = some o → o.live = true → ∃ i, σ[id]? = some i ∧ Γ[i]? = some s ∧ H[i]? = some (o.ren (rn σ H.length)) := fun h1 h2 h3 => by
  obtain ⟨i, g1, g2⟩ := (sg_get hin).1 h1
  exact ⟨i, g1, g2, (hs.obj _ i _ g1 h2 h3).1⟩
 refine ⟨⟨by simp [sg, hs.len], ?_, ?_, ?_, hS.low, hS.glob⟩, ?_⟩
 ·intro id s o h1 h2
  cases hl : o.live with
  | false => cases o <;> simp [AObj.live] at hl; trivial
  | true =>
   obtain ⟨i, g1, g2, g3⟩ := lv h1 h2 hl
   refine (hS.obj i s _ g2 g3).down (r := rn σ H.length) (fun id s hid hg => ?_) (hs.obj _ i _ g1 h2 hl).2
   rw [rn_lt hid] at hg
   exact (sg_get hin).2 ⟨_, List.getElem?_eq_getElem hid, hg⟩
 ·intro id s o b h1 h2 h3 h4
  obtain ⟨i, g1, g2, g3⟩ := lv h1 h2 h3
  exact hS.sep i s _ b g2 g3 (by rw [AObj.ren_live]; exact h3) h4
 ·intro i j si sj oi oj b h1 h2 h3 h4 h5 h6 h7 h8
  obtain ⟨i', g1, g2, g3⟩ := lv h1 h3 h5
  obtain ⟨j', k1, k2, k3⟩ := lv h2 h4 h6
  have e := hS.inj i' j' si sj _ _ b g2 k2 g3 k3 (by rw [AObj.ren_live]; exact h5) (by rw [AObj.ren_live]; exact h6) h7 h8
  subst e
  obtain ⟨a1, a2⟩ := List.getElem?_eq_some_iff.1 g1
  obtain ⟨b1, b2⟩ := List.getElem?_eq_some_iff.1 k1
  exact (List.getElem_inj hs.nd).1 (a2.trans b2.symm)
 ·rintro b ⟨id, s, o, h1, h2, h3, h4⟩
  obtain ⟨i, g1, g2, g3⟩ := lv h1 h2 h3
  exact ⟨i, s, _, g2, g3, by rw [AObj.ren_live]; exact h3, h4⟩
theorem ACalls.frame {g : FuncId} {args0 args : List AV} {K0 K : AV → List AObj → Prop} (h : ACalls E g args0 H0 K0) (σ : List Nat) (hs : Sb σ H H0)
  (ha : args = args0.map (AV.ren (rn σ H.length))) (hb : AV.belL σ.length args0 = true) (hK : ∀ v0 H0', K0 v0 H0' → K (v0.ren (rn σ H.length)) (lift σ H H0')) : ACalls E g args H K := by
 refine ⟨h.1, fun w F Γ vs hS hV => ?_⟩
 subst ha
 have hin : ∀ i ∈ σ, i < Γ.length := fun i hi => by rw [hS.len]; exact hs.inH i hi
 obtain ⟨hS0, hL0⟩ := hS.sub hs
 have hdown : ∀ id s, id < σ.length → Γ[rn σ H.length id]? = some s → (sg σ Γ)[id]? = some s := fun id s hid hg => by
  rw [rn_lt hid] at hg
  exact (sg_get hin).2 ⟨_, List.getElem?_eq_getElem hid, hg⟩
 have hV0 : RVL w F (sg σ Γ) args0 vs := ⟨by simpa using hV.1, fun j av hj => (hV.2 j (av.ren _) (by simp [hj])).down hdown (AV.belL_ok _ _ hb av (List.mem_of_getElem? hj))⟩
 refine (h.2 w F (sg σ Γ) vs hS0 hV0).mono ?_
 rintro e w' ⟨v, v0, H0', F', Γ0', rfl, hS', hv', hK0, hX⟩
 have hn : H0.length = σ.length := hs.len
 have hn' : σ.length ≤ Γ0'.length := by rw [← hn]; exact hX.nlen
 have hG : H.length = Γ.length := hS.len.symm
 have hup : ∀ id s, Γ0'[id]? = some s → (Γ ++ Γ0'.drop σ.length)[rn σ H.length id]? = some s := fun id s hid => by
  by_cases hlt : id < σ.length
  ·rw [rn_lt hlt]
   rw [hX.pre id (by omega)] at hid
   obtain ⟨i, h1, h2⟩ := (sg_get hin).1 hid
   rw [List.getElem?_eq_getElem hlt] at h1
   obtain rfl := Option.some.inj h1
   rw [List.getElem?_append_left (List.getElem?_eq_some_iff.1 h2).1]; exact h2
  ·rw [rn_ge (by omega), List.getElem?_append_right (by omega), List.getElem?_drop, hG]
   rw [show σ.length + (id - σ.length + Γ.length - Γ.length) = id by omega]
   exact hid
 have hstay := hX.stay hS0
 have hpre : ∀ (id : Nat) s, Γ[id]? = some s → (Γ ++ Γ0'.drop σ.length)[id]? = some s := fun id s hid => by
  rw [List.getElem?_append_left (List.getElem?_eq_some_iff.1 hid).1]; exact hid
 have org : ∀ i o, (lift σ H H0')[i]? = some o → (∃ id o0, i = rn σ H.length id ∧ H0'[id]? = some o0 ∧ o = o0.ren (rn σ H.length)) ∨ (i < H.length ∧ i ∉ σ ∧ H[i]? = some o) := fun i o hi => by
  unfold lift at hi
  have hl0 : σ.length ≤ H0'.length := by rw [← hS'.len]; exact hn'
  by_cases hlt : i < H.length
  ·rw [List.getElem?_append_left (by rw [putAll_length]; exact hlt)] at hi
   rcases putAll_get σ _ H i o (by simpa using hl0) hs.nd hi with ⟨j, h1, h2⟩ | ⟨h1, h2⟩
   ·rw [List.getElem?_map] at h2
    cases hx : H0'[j]? with
    | none => simp [hx] at h2
    | some o0 =>
     simp [hx] at h2
     obtain ⟨hj, hj'⟩ := List.getElem?_eq_some_iff.1 h1
     exact .inl ⟨j, o0, by rw [rn_lt hj]; exact hj'.symm, hx, h2.symm⟩
   ·exact .inr ⟨hlt, h1, h2⟩
  ·rw [List.getElem?_append_right (by rw [putAll_length]; omega), putAll_length, List.getElem?_map, List.getElem?_drop] at hi
   cases hx : H0'[σ.length + (i - H.length)]? with
   | none => simp [hx] at hi
   | some o0 =>
    simp [hx] at hi
    exact .inl ⟨_, o0, by rw [rn_ge (by omega)]; omega, hx, hi.symm⟩
 have slot : ∀ {id : Nat} {s : Slot} {o0 : AObj}, H0'[id]? = some o0 → (Γ ++ Γ0'.drop σ.length)[rn σ H.length id]? = some s → Γ0'[id]? = some s := fun {id s o0} h1 h2 => by
  have hid : id < Γ0'.length := by rw [hS'.len]; exact (List.getElem?_eq_some_iff.1 h1).1
  have := hup id _ (List.getElem?_eq_getElem hid)
  rw [h2] at this
  rw [List.getElem?_eq_getElem hid]; exact this.symm
 have slotO : ∀ {i : Nat} {s : Slot}, i < H.length → (Γ ++ Γ0'.drop σ.length)[i]? = some s → Γ[i]? = some s := fun {i s} h1 h2 => by
  rwa [List.getElem?_append_left (by omega)] at h2
 have unt : ∀ {i b : Nat} {s : Slot} {o : AObj}, i ∉ σ → Γ[i]? = some s → H[i]? = some o → o.live = true → s.b = some b → b < w.heap.size ∧ ¬ LiveB (sg σ Γ) H0 b := fun {i b s o} h1 h2 h3 h4 h5 => by
  refine ⟨live_lt hS ⟨i, s, o, h2, h3, h4, h5⟩, ?_⟩
  rintro ⟨id, s', o', g1, g2, g3, g4⟩
  obtain ⟨i', k1, k2⟩ := (sg_get hin).1 g1
  have k3 := (hs.obj _ i' _ k1 g2 g3).1
  have e := hS.inj i i' s s' o _ b h2 k2 h3 k3 h4 (by rw [AObj.ren_live]; exact g3) h5 g4
  exact h1 (e ▸ List.mem_of_getElem? k1)
 have untF : ∀ {i b : Nat} {s : Slot} {o : AObj}, i ∉ σ → Γ[i]? = some s → H[i]? = some o → o.live = true → s.b = some b → ¬ F' b ∧ ¬ LiveB Γ0' H0' b := fun {i b s o} h1 h2 h3 h4 h5 => by
  obtain ⟨k1, k2⟩ := unt h1 h2 h3 h4 h5
  refine ⟨fun hf => ?_, fun hl => k2 (hX.live b hl k1)⟩
  rcases hX.new b hf k1 with hf | hl
  ·exact hS.sep i s o b h2 h3 h4 h5 hf
  ·exact k2 hl
 refine ⟨v, v0.ren (rn σ H.length), lift σ H H0', F', Γ ++ Γ0'.drop σ.length, rfl, ?_, hv'.up hup, hK v0 H0' hK0, ?_⟩
 ·refine ⟨?_, ?_, ?_, ?_, hS'.low, hS'.glob⟩
  ·simp only [lift, List.length_append, putAll_length, List.length_map, List.length_drop, hS.len, hS'.len]
  ·intro i s o h1 h2
   rcases org i o h2 with ⟨id, o0, rfl, g1, rfl⟩ | ⟨g1, g2, g3⟩
   ·exact (hS'.obj id s o0 (slot g1 h1) g1).up hup
   ·have h1' := slotO g1 h1
    have hro := hS.obj i s o h1' g3
    exact hro.mono hX.sub hstay hpre fun b hb hl => by
     obtain ⟨u1, u2⟩ := unt g2 h1' g3 hl hb
     exact hX.unch b u1 u2
  ·intro i s o b h1 h2 h3 h4
   rcases org i o h2 with ⟨id, o0, rfl, g1, rfl⟩ | ⟨g1, g2, g3⟩
   ·exact hS'.sep id s o0 b (slot g1 h1) g1 (by rw [← AObj.ren_live]; exact h3) h4
   ·exact (untF g2 (slotO g1 h1) g3 h3 h4).1
  ·intro i j si sj oi oj b h1 h2 h3 h4 h5 h6 h7 h8
   rcases org i oi h3 with ⟨id, o0, rfl, g1, rfl⟩ | ⟨g1, g2, g3⟩ <;> rcases org j oj h4 with ⟨jd, p0, rfl, k1, rfl⟩ | ⟨k1, k2, k3⟩
   ·rw [hS'.inj id jd si sj o0 p0 b (slot g1 h1) (slot k1 h2) g1 k1 (by rw [← AObj.ren_live]; exact h5) (by rw [← AObj.ren_live]; exact h6) h7 h8]
   ·exact absurd ⟨id, si, o0, slot g1 h1, g1, by rw [← AObj.ren_live]; exact h5, h7⟩ (untF k2 (slotO k1 h2) k3 h6 h8).2
   ·exact absurd ⟨jd, sj, p0, slot k1 h2, k1, by rw [← AObj.ren_live]; exact h6, h8⟩ (untF g2 (slotO g1 h1) g3 h5 h7).2
   ·exact hS.inj i j si sj oi oj b (slotO g1 h1) (slotO k1 h2) g3 k3 h5 h6 h7 h8
 ·refine ⟨hX.os, hX.tape, hX.output, hX.size, fun b hb hl => hX.unch b hb fun hl' => hl (hL0 b hl'), hX.sub, fun b hb hlt => ?_, ?_, ?_, ?_⟩
  ·rcases hX.new b hb hlt with h | h
   ·exact .inl h
   ·exact .inr (hL0 b h)
  ·rintro b ⟨i, s, o, h1, h2, h3, h4⟩ hlt
   rcases org i o h2 with ⟨id, o0, rfl, g1, rfl⟩ | ⟨g1, g2, g3⟩
   ·exact hL0 b (hX.live b ⟨id, s, o0, slot g1 h1, g1, by rw [← AObj.ren_live]; exact h3, h4⟩ hlt)
   ·exact ⟨i, s, o, slotO g1 h1, g3, h3, h4⟩
  ·intro id hid
   rw [List.getElem?_append_left (by omega)]
  ·simp [hG]
end
end Go.Abs
end
section
set_option autoImplicit false
set_option linter.unusedVariables false
set_option linter.unusedSimpArgs false
namespace Go.Abs
def aresL (E : Env) (t : List AV) (H : List AObj) : List ResultVar → (List AV → Prop) → Prop
 | [], K => K []
 | .tmp i :: r, K => aresL E t H r fun l => K (t.getD i .dead :: l)
 | .cell a T :: r, K => aload E T H (fun v => aresL E t H r fun l => K (v :: l)) (t.getD a .dead)
def one? : List AV → AV
 | [v] => v
 | l => mkTup l
def ares (E : Env) (fn : Func) (t : List AV) (H : List AObj) (K : AV → Prop) : Prop := aresL E t H fn.results.toList fun l => K (one? l)
def allDefr : List AObj → List Nat → Prop
 | _, [] => True
 | H, d :: ds => H[d]? = some .defr ∧ allDefr (H.set d .none) ds
def offs : List AObj → List Nat → List AObj
 | H, [] => H
 | H, d :: ds => offs (H.set d .none) ds
def aret (E : Env) (n0 : Nat) (fn : Func) (K : AV → List AObj → Prop) : Q3 := fun e t H ds => match e with
 | .normal => WK E n0 (fun t H ds => allDefr H ds ∧ ares E fn t (offs H ds) fun v => K v (offs H ds)) t H ds
 | .ret => WK E n0 (fun t H ds => allDefr H ds ∧ ares E fn t (offs H ds) fun v => K v (offs H ds)) t H ds
 | _ => False
section
variable {E : Env} {w w' : World} {F F' : Nat → Prop} {Γ Γ' Γ0 : List Slot} {H H' H0 : List AObj} {n0 : Nat}
theorem RT.at {t : List AV} {tm : Array Value} (h : RT w F Γ t tm) (i : Nat) : RV w F Γ (t.getD i .dead) (tm.getD i undef) := by
 rw [List.getD_eq_getElem?_getD]
 cases hx : t[i]? with
 | none => exact .dead _
 | some av => exact h.2 i av hx
theorem load_as {P : Program} {T : TypeId} {v u : Value} (h : (Instr.loadAt T v).run P w = .ok u w) : (do loadVar T (← asAddr v) : Sem Value).run P w = .ok u w := by
 cases v
 case pointer a =>
  cases a with
  | some a => simpa [Instr.loadAt, Instr.sureAddr, asAddr] using h
  | none => simp [Instr.loadAt, Instr.sureAddr] at h
 all_goals simp [Instr.loadAt, Instr.sureAddr] at h
def resOf (tm : Array Value) : ResultVar → Sem Value
 | .tmp t => pure (tm.getD t undef)
 | .cell a t => do loadVar t (← asAddr (tm.getD a undef))
theorem aresL_ok (hE : EnvOk E) (hS : SR E w F Γ H) {t : List AV} {tm : Array Value} (hT : RT w F Γ t tm) : ∀ (rs : List ResultVar) (K : List AV → Prop), aresL E t H rs K →
  ∃ (vs : List Value) (l : List AV), (rs.mapM (resOf tm)).run E.P w = .ok vs w ∧ K l ∧ vs.length = l.length ∧ ∀ (j : Nat) (a : AV), l[j]? = some a → RV w F Γ a (vs.getD j undef)
 | [], K, h => ⟨[], [], by simp, h, rfl, fun j a hj => by simp at hj⟩
 | .tmp i :: r, K, h => by
  obtain ⟨vs, l, h1, h2, h3, h4⟩ := aresL_ok hE hS hT r _ h
  refine ⟨tm.getD i undef :: vs, _, by simp [List.mapM_cons, resOf, h1], h2, by simp [h3], fun j a hj => ?_⟩
  cases j with
  | zero => simp at hj; subst hj; exact hT.at i
  | succ j => simpa using h4 j a (by simpa using hj)
 | .cell c T :: r, K, h => by
  obtain ⟨u, au, g1, g2, g3⟩ := aload_ok hE hS h (hT.at c)
  obtain ⟨vs, l, h1, h2, h3, h4⟩ := aresL_ok hE hS hT r _ g2
  have g1' := load_as g1
  have e : (resOf tm (.cell c T)).run E.P w = .ok u w := g1'
  refine ⟨u :: vs, _, by rw [List.mapM_cons]; simp [e, h1], h2, by simp [h3], fun j a hj => ?_⟩
  cases j with
  | zero => simp at hj; subst hj; exact g3
  | succ j => simpa using h4 j a (by simpa using hj)
theorem ares_ok (hE : EnvOk E) (hS : SR E w F Γ H) {fn : Func} {t : List AV} {K : AV → Prop} (h : ares E fn t H K) {tm : Array Value} (hT : RT w F Γ t tm) : ∃ v av, (results fn tm).run E.P w = .ok v w ∧ K av ∧ RV w F Γ av v := by
 obtain ⟨vs, l, h1, h2, h3, h4⟩ := aresL_ok hE hS hT _ _ h
 have e : (results fn tm).run E.P w = .ok (if h : vs.toArray.size = 1 then vs.toArray[0] else .tuple vs.toArray) w := by
  have e1 : fn.results.mapM (resOf tm) = List.toArray <$> fn.results.toList.mapM (resOf tm) := by
   conv => lhs; rw [← Array.toArray_toList (xs := fn.results)]
   rw [List.mapM_toArray]
  have e2 : results fn tm = (do let vs ← fn.results.mapM (resOf tm); pure (if h : vs.size = 1 then vs[0] else .tuple vs)) := by
   unfold results
   congr 1
  rw [e2, e1]
  simp [h1]
 refine ⟨_, one? l, e, h2, ?_⟩
 clear e h2 h1
 match l, vs, h3, h4 with
 | [a], [v], _, h4 => simpa [one?] using h4 0 a rfl
 | [], [], _, _ => exact mkTup_ok [] #[] rfl fun j d hj => by simp at hj
 | a :: b :: l, v :: u :: vs, h3, h4 =>
  rw [dif_neg (by simp)]
  simp only [one?]
  exact mkTup_ok _ _ (by simpa using h3) fun j d hj => by
   have := h4 j d hj
   simpa [Array.getD_eq_getD_getElem?, List.getD_eq_getElem?_getD] using this
theorem enters_of {P : Program} {f : FuncId} {fn : Func} {c : Code} (hf : P.funcs[f]? = some fn) (hb : fn.body = some c) (hnm : (fn.name == "runtime.NumGoroutine") = false) : Enters P f := fun args w => by
 have : ¬fn.name = "runtime.NumGoroutine" := by simpa using hnm
 simp [callFunc, hf, hb, this]
theorem leaves_marks (hE : EnvOk E) {n n0 : Nat} {fn : Func} {K : AV → List AObj → Prop} {w0 : World} {F0 : Nat → Prop} : ∀ (ds : List Nat) (df : List Deferred) (w : World) (F : Nat → Prop) (Γ : List Slot) (t : List AV) (tm : Array Value) (H : List AObj),
  SR E w F Γ H → RT w F Γ t tm → DR Γ ds df → Ext n0 w0 F0 Γ0 H0 w F Γ H → allDefr H ds → ares E fn t (offs H ds) (fun v => K v (offs H ds)) →
  LeavesInM (Wr none) n E.P fn tm (fun e w' => ∃ v' r H' F' Γ', e = Ending.returned v' ∧ SR E w' F' Γ' H' ∧ RV w' F' Γ' r v' ∧ K r H' ∧ Ext n0 w0 F0 Γ0 H0 w' F' Γ' H') df .returning w
 | [], df, w, F, Γ, t, tm, H, hS, hT, hD, hX, hds, hres => by
  obtain rfl : df = [] := List.eq_nil_of_length_eq_zero hD.1
  obtain ⟨v, av, hrun, hK, hrv⟩ := ares_ok hE hS hres hT
  exact ⟨v, hrun, v, av, H, F, Γ, rfl, hS, hrv, hK, hX⟩
 | d :: ds, [], w, F, Γ, t, tm, H, hS, hT, hD, hX, hds, hres => by have := hD.1; simp at this
 | d :: ds, d0 :: df, w, F, Γ, t, tm, H, hS, hT, hD, hX, hds, hres => by
  obtain ⟨s, b, hs, hb, hd0⟩ := hD.2 0 d rfl
  simp at hd0
  subst hd0
  obtain ⟨ho, hds⟩ := hds
  obtain ⟨b', hb', hh⟩ := hS.obj d s _ hs ho
  obtain rfl : b' = b := by rw [hb] at hb'; exact (Option.some.inj hb').symm
  have htake : (Instr.takeDeferred b').run E.P w = .ok [] (putB w b' (.deferred none)) := by
   simp [Instr.takeDeferred, getObj, setObj, Sem.run, hh, putB]
  obtain ⟨F4, Γ4, H4, av4, g1, g2, ⟨_, rfl⟩, g4, g5⟩ := out_ob (n0 := n0) hS hX.nlen hs ho rfl hb (ob := .deferred none) (o' := .none) trivial (K := fun H4 => H4 = H.set d .none) rfl (v := undef) (av := .dead) (.dead _)
  refine ⟨by simp, .inl ⟨b', _, rfl, htake, ?_⟩⟩
  exact leaves_marks hE ds df _ F4 Γ4 t tm _ g1 (hT.mono g4.sub (g4.stay hS) g5) ⟨by have := hD.1; simpa using this, fun i id hi => by
   obtain ⟨s', b2, q1, q2, q3⟩ := hD.2 (i + 1) id (by simpa using hi)
   exact ⟨s', b2, g5 _ _ q1, q2, by simpa using q3⟩⟩ (hX.trans (Nat.le_refl _) g4) hds hres
theorem acalls_of_awp (hE : EnvOk E) {f : FuncId} {fn : Func} {c : Code} {args : List AV} {K : AV → List AObj → Prop} (hf : E.P.funcs[f]? = some fn) (hb : fn.body = some c) (hnm : (fn.name == "runtime.NumGoroutine") = false)
  {m : Nat} (hm : fn.ntmps - args.length = m) (h : awp E H.length false c (aret E H.length fn K) (args ++ List.replicate m .dead) H []) : ACalls E f args H K := by
 refine ⟨enters_of hf hb hnm, fun w F Γ vs hS hV => ?_⟩
 refine (callsIn_wide (n := 0)).1 (callsIn_of_wp_marks (F := Wr none) (n := 0) hf hb trivial ?_ rfl)
 subst hm
 have hT : RT w F Γ (args ++ List.replicate (fn.ntmps - args.length) .dead) (vs ++ Array.replicate (fn.ntmps - vs.size) undef) := by
  refine ⟨by simp [hV.1], fun j av hj => ?_⟩
  rw [List.getElem?_append] at hj
  split at hj
  ·rename_i hlt
   have := hV.2 j av hj
   rwa [Array.getD_eq_getD_getElem?, Array.getElem?_append_left (by rw [hV.1]; exact hlt), ← Array.getD_eq_getD_getElem?]
  ·rw [List.getElem?_replicate] at hj
   split at hj <;> simp at hj
   subst hj
   exact .dead _
 have hn : H.length ≤ Γ.length := by rw [hS.len]; exact Nat.le_refl _
 refine wpIn_mono (awp_ok (ro := none) (n := 0) hE (fun _ => rfl) c _ _ H [] h w F Γ _ ⟨hS, hT, ⟨rfl, fun i id hi => by simp at hi⟩⟩ hn) ?_
 have fin : ∀ a' w', Lat E H.length w F Γ H (fun t H' ds => WK E H.length (fun t H' ds => allDefr H' ds ∧ ares E fn t (offs H' ds) fun v => K v (offs H' ds)) t H' ds) a' w' →
   LeavesInM (Wr none) 0 E.P fn a'.tmps (fun e w' => ∃ v' r H' F' Γ', e = Ending.returned v' ∧ SR E w' F' Γ' H' ∧ RV w' F' Γ' r v' ∧ K r H' ∧ Ext H.length w F Γ H w' F' Γ' H') a'.defers .returning w' := by
  rintro a' w' ⟨F1, Γ1, t1, H1, ds1, hR1, hX1, t2, H2, ds2, hwk, hds, hres⟩
  obtain ⟨F2, Γ2, k1, k2, k3, k4⟩ := hwk w' F1 Γ1 a'.tmps a'.defers hR1.sr hR1.rt hR1.dr hX1.nlen
  exact leaves_marks hE ds2 _ w' F2 Γ2 t2 _ H2 k1 k2 k3 (hX1.trans (Nat.le_refl _) k4) hds hres
 intro e a' w' hl
 cases e with
 | normal => exact fin a' w' hl
 | ret => exact fin a' w' hl
 | _ => obtain ⟨_, _, _, _, _, _, _, hq⟩ := hl; exact hq.elim
/-! ### Telling anew -/
def tellL (r : Nat → Nat) (n : Nat) : List AV → List AV → Prop
 | [], [] => True
 | a :: l, b :: m => (a = .dead ∨ (b = a.ren r ∧ a.bel n = true)) ∧ tellL r n l m
 | _, _ => False
theorem tellL_get {r : Nat → Nat} {n : Nat} : ∀ {t' t : List AV}, tellL r n t' t → t'.length = t.length ∧ ∀ (j : Nat) (a : AV), t'[j]? = some a → a = .dead ∨ (t[j]? = some (a.ren r) ∧ a.bel n = true)
 | [], [], _ => ⟨rfl, fun j a h => by simp at h⟩
 | a :: l, b :: m, h => by
  obtain ⟨h1, h2⟩ := h
  obtain ⟨h3, h4⟩ := tellL_get h2
  refine ⟨by simp [h3], fun j c hj => ?_⟩
  cases j with
  | zero =>
   simp at hj; subst hj
   rcases h1 with h1 | ⟨h1, h5⟩
   ·exact .inl h1
   ·exact .inr ⟨by simp [h1], h5⟩
  | succ j => simpa using h4 j c (by simpa using hj)
 | [], _ :: _, h => h.elim
 | _ :: _, [], h => h.elim
theorem Wk.tell (σ : List Nat) {t t' : List AV} (hs : Sb σ H H') (ht : tellL (rn σ H.length) σ.length t' t) (hn0 : ∀ id, id < n0 → σ[id]? = some id) : Wk E n0 t H [] t' H' [] := fun w F Γ tm df hS hT hD hn => by
 have hin : ∀ i ∈ σ, i < Γ.length := fun i hi => by rw [hS.len]; exact hs.inH i hi
 obtain ⟨hS0, hL0⟩ := hS.sub hs
 have hdown : ∀ id s, id < σ.length → Γ[rn σ H.length id]? = some s → (sg σ Γ)[id]? = some s := fun id s hid hg => by
  rw [rn_lt hid] at hg
  exact (sg_get hin).2 ⟨_, List.getElem?_eq_getElem hid, hg⟩
 obtain ⟨h1, h2⟩ := tellL_get ht
 refine ⟨F, sg σ Γ, hS0, ⟨by rw [hT.1, h1], fun j av hj => ?_⟩, ⟨hD.1, fun i id hi => by simp at hi⟩, ?_⟩
 ·rcases h2 j av hj with rfl | ⟨h3, h4⟩
  ·exact .dead _
  ·exact (hT.2 j _ h3).down hdown (AV.bel_ok _ _ h4)
 ·refine ⟨rfl, rfl, rfl, Nat.le_refl _, fun _ _ _ => rfl, fun _ h => h, fun _ h _ => .inl h, fun b hb _ => hL0 b hb, fun id hid => ?_, ?_⟩
  ·have e := hn0 id hid
   cases hg : Γ[id]? with
   | none =>
    have := hin id (List.mem_of_getElem? e)
    rw [List.getElem?_eq_getElem this] at hg; cases hg
   | some s => exact (sg_get hin).2 ⟨id, e, hg⟩
  ·cases n0 with
   | zero => exact Nat.zero_le _
   | succ n0 =>
    have := (List.getElem?_eq_some_iff.1 (hn0 n0 (by omega))).1
    simp only [sg, List.length_map]; omega
def fgt : List AV → List AV → Prop
 | [], [] => True
 | a :: l, b :: m => (a = .dead ∨ a = b) ∧ fgt l m
 | _, _ => False
theorem fgt_get : ∀ {t' t : List AV}, fgt t' t → t'.length = t.length ∧ ∀ (j : Nat) (a : AV), t'[j]? = some a → a = .dead ∨ t[j]? = some a
 | [], [], _ => ⟨rfl, fun j a h => by simp at h⟩
 | a :: l, b :: m, h => by
  obtain ⟨h1, h2⟩ := h
  obtain ⟨h3, h4⟩ := fgt_get h2
  refine ⟨by simp [h3], fun j c hj => ?_⟩
  cases j with
  | zero =>
   simp at hj; subst hj
   rcases h1 with h1 | h1
   ·exact .inl h1
   ·exact .inr (by simp [h1])
  | succ j => simpa using h4 j c (by simpa using hj)
 | [], _ :: _, h => h.elim
 | _ :: _, [], h => h.elim
theorem Wk.forget {t t' : List AV} {ds : List Nat} (ht : fgt t' t) : Wk E n0 t H ds t' H ds := fun w F Γ tm df hS hT hD hn => by
 obtain ⟨h1, h2⟩ := fgt_get ht
 refine ⟨F, Γ, hS, ⟨by rw [hT.1, h1], fun j av hj => ?_⟩, hD, Ext.refl hn⟩
 rcases h2 j av hj with rfl | h3
 ·exact .dead _
 ·exact hT.2 j _ h3
theorem SR.take (hS : SR E w F Γ H) {J : List AObj} (hS' : SR E w' F' Γ' (H ++ J)) (hpre : ∀ id, id < H.length → Γ'[id]? = Γ[id]?) : SR E w' F' Γ H := by
 have hlen := hS.len
 have hup : ∀ (id : Nat) s, Γ[id]? = some s → Γ'[id]? = some s := fun id s h => by rw [hpre id (by rw [← hlen]; exact (List.getElem?_eq_some_iff.1 h).1)]; exact h
 have hH : ∀ {id : Nat} {o : AObj}, H[id]? = some o → (H ++ J)[id]? = some o := fun {id o} h => by rw [List.getElem?_append_left (List.getElem?_eq_some_iff.1 h).1]; exact h
 exact ⟨hlen, fun id s o h1 h2 => (hS.obj id s o h1 h2).back hup (hS'.obj id s o (hup _ _ h1) (hH h2)), fun id s o b h1 h2 => hS'.sep id s o b (hup _ _ h1) (hH h2),
  fun i j si sj oi oj b h1 h2 h3 h4 => hS'.inj i j si sj oi oj b (hup _ _ h1) (hup _ _ h2) (hH h3) (hH h4), hS'.low, hS'.glob⟩
theorem ACalls.trunc {g : FuncId} {args : List AV} {K K' : AV → List AObj → Prop} (h : ACalls E g args H K) (hK : ∀ r H', K r H' → ∃ x J, r = .d x ∧ H' = H ++ J ∧ K' (.d x) H) : ACalls E g args H K' := by
 refine ⟨h.1, fun w F Γ vs hS hV => (h.2 w F Γ vs hS hV).mono ?_⟩
 rintro e w' ⟨v, r, H', F', Γ', rfl, hS', hv', hKr, hX⟩
 obtain ⟨x, J, rfl, rfl, hK1⟩ := hK r H' hKr
 refine ⟨v, .d x, H, F', Γ, rfl, hS.take hS' hX.pre, .d hv'.of_d, hK1, hX.os, hX.tape, hX.output, hX.size, hX.unch, hX.sub, hX.new, fun b hb _ => hb, fun _ _ => rfl, by rw [hS.len]; exact Nat.le_refl _⟩
def PCall (E : Env) (g : FuncId) (args : List D) (r : D) : Prop := ACalls E g (args.map .d) [] fun v _ => v = .d r
theorem PCall.anywhere {g : FuncId} {args : List D} {r : D} (h : PCall E g args r) (H : List AObj) : ACalls E g (args.map .d) H fun v H' => v = .d r ∧ H' = H := by
 have hren : ∀ (f : Nat → Nat) (l : List D), (l.map AV.d).map (AV.ren f) = l.map .d := fun f l => by simp [AV.ren, Function.comp_def]
 have hbel : ∀ (l : List D), AV.belL 0 (l.map AV.d) = true := fun l => by induction l with
  | nil => rfl
  | cons a l ih => simp [AV.belL, AV.bel, ih]
 have h1 : ACalls E g (args.map .d) H fun v H' => v = .d r ∧ ∃ J, H' = H ++ J :=
  ACalls.frame h [] ⟨rfl, List.nodup_nil, fun i hi => by simp at hi, fun j i o hj => by simp at hj⟩ (hren _ _).symm (hbel _) (fun v0 H0' hv => by
   subst hv
   exact ⟨rfl, _, by simp [lift, putAll]; rfl⟩)
 exact h1.trunc fun v H' ⟨hv, J, hJ⟩ => ⟨r, J, hv, hJ, rfl, rfl⟩
theorem PCall.quiet {g : FuncId} {args : List D} {r : D} (h : PCall E g args r) {as : List AV} (ha : as = args.map .d) {K : AV → Prop} (hK : K (.d r)) : ∃ v, ACalls E g as H (fun r H' => r = v ∧ H' = H) ∧ K v := by
 subst ha
 exact ⟨_, h.anywhere H, hK⟩
/-! ### Freezing -/
mutual
def AV.frz (id sz : Nat) (xs : List (List D)) : AV → AV
 | .sfull i => if i = id then .d (.slice sz xs) else .sfull i
 | .parr i j k => if i = id then .dead else .parr i j k
 | .spart i lo n => if i = id then .dead else .spart i lo n
 | .func f cs => .func f (AV.frzL id sz xs cs)
 | .iface t v => .iface t (AV.frz id sz xs v)
 | .agg cs => .agg (AV.frzL id sz xs cs)
 | .tup cs => .tup (AV.frzL id sz xs cs)
 | .dead => .dead
 | .d x => .d x
 | .pvar i k => .pvar i k
 | .pval m ys i k => .pval m ys i k
 | .svalf m ys => .svalf m ys
 | .mapo i => .mapo i
 | .yield i => .yield i
def AV.frzL (id sz : Nat) (xs : List (List D)) : List AV → List AV
 | [] => []
 | a :: l => AV.frz id sz xs a :: AV.frzL id sz xs l
end
theorem AV.frzL_map (id sz : Nat) (xs : List (List D)) : ∀ l, AV.frzL id sz xs l = l.map (AV.frz id sz xs)
 | [] => rfl
 | a :: l => by simp [AV.frzL, AV.frzL_map id sz xs l]
def AObj.frz (id sz : Nat) (xs : List (List D)) : AObj → AObj
 | .var cs => .var (AV.frzL id sz xs cs)
 | .loop fn t ps a b st => .loop fn (AV.frzL id sz xs t) ps a b st
 | o => o
theorem AObj.frz_live (id sz : Nat) (xs : List (List D)) (o : AObj) : (o.frz id sz xs).live = o.live := by cases o <;> rfl
theorem RV.frz {id sz : Nat} {xs : List (List D)} {ty : TypeId} {s : Slot} (hs : Γ[id]? = some s) (hro : RO w F Γ s (.arr ty sz xs)) {av : AV} {v : Value} (h : RV w F Γ av v) :
  RV w (fun b => F b ∨ s.b = some b) Γ (av.frz id sz xs) v := by
 have up : ∀ {av : AV} {v : Value}, RV w F Γ av v → RV w (fun b => F b ∨ s.b = some b) Γ av v := fun h => h.mono (fun _ h => .inl h) (fun _ _ => rfl) (fun _ _ h => h)
 induction h with
 | dead v => exact .dead v
 | d h => exact up (.d h)
 | pvar hs' hb => exact .pvar hs' hb
 | parr hs' hb => simp only [AV.frz]; split; exact .dead _; exact .parr hs' hb
 | pval h hi => exact up (.pval h hi)
 | svalf h => exact up (.svalf h)
 | sfull hs' hA =>
  rename_i i s' A
  simp only [AV.frz]
  split
  ·rename_i e
   subst e
   rw [hs] at hs'
   obtain rfl := Option.some.inj hs'
   obtain ⟨k1, k2, k3, k4, k5⟩ := hro
   rw [k2]
   refine .d ?_
   rcases k5 with ⟨k5, k6⟩ | ⟨b, c, k5, k6, k7, k8⟩
   ·have : xs = [] := List.eq_nil_of_length_eq_zero (by omega)
    subst this
    exact .slice sz [] A _ (fun _ _ => undef) (by simp) (by simp) (by simp) (fun i x j d h => by simp at h) (fun i x j d h => by simp at h)
   ·have hAe := hA b k5
    subst hAe
    refine .slice sz xs _ _ (fun i j => c.getD (i * sz + j) undef) k3 (fun _ => rfl) k4 (fun i x j d h1 h2 => ?_) (fun i x j d h1 h2 => ((k8 i x j d h1 h2).2).mono (fun _ h => .inl h) (fun _ _ => rfl))
    refine ⟨(k8 i x j d h1 h2).1, _, rfl, .inr k5, ?_⟩
    rw [add_plain, cell_of_heap k6]
    have hi := (List.getElem?_eq_some_iff.1 h1).1
    have hj := (List.getElem?_eq_some_iff.1 h2).1
    have hl := k4 x (List.mem_of_getElem? h1)
    have h3 : (i + 1) * sz ≤ s.cap * sz := Nat.mul_le_mul_right _ (by omega)
    rw [Nat.succ_mul] at h3
    simp only [Nat.zero_add]
    exact getD_of (by omega)
  ·exact .sfull hs' hA
 | spart hs' hn ha => simp only [AV.frz]; split; exact .dead _; exact .spart hs' hn ha
 | mapo hs' hb => exact .mapo hs' hb
 | func f cs vs hs hr ih =>
  simp only [AV.frz, AV.frzL_map]
  refine .func f _ vs (by simpa using hs) (fun j d hj => ?_)
  rw [List.getElem?_map] at hj
  cases hx : cs[j]? with
  | none => simp [hx] at hj
  | some x => simp [hx] at hj; subst hj; exact ih j x hx
 | yield hs' hb => exact .yield hs' hb
 | iface t d v hr ih => exact .iface t _ v ih
 | agg cs vs hs h1 hr ih =>
  simp only [AV.frz, AV.frzL_map]
  refine .agg _ vs (by simpa using hs) h1 (fun j d hj => ?_)
  rw [List.getElem?_map] at hj
  cases hx : cs[j]? with
  | none => simp [hx] at hj
  | some x => simp [hx] at hj; subst hj; exact ih j x hx
 | tup cs vs hs hr ih =>
  simp only [AV.frz, AV.frzL_map]
  refine .tup _ vs (by simpa using hs) (fun j d hj => ?_)
  rw [List.getElem?_map] at hj
  cases hx : cs[j]? with
  | none => simp [hx] at hj
  | some x => simp [hx] at hj; subst hj; exact ih j x hx
theorem RV.frzPart {id lo n sz : Nat} {xs : List (List D)} {ty : TypeId} {s : Slot} (hs : Γ[id]? = some s) (hro : RO w F Γ s (.arr ty sz xs)) {v : Value} (h : RV w F Γ (.spart id lo n) v) (hle : lo + n ≤ xs.length) :
  RD w (fun b => F b ∨ s.b = some b) (.slice sz ((xs.drop lo).take n)) v := by
 cases h with
 | spart hs' hnc ha =>
  rename_i c s' A
  rw [hs] at hs'
  obtain rfl := Option.some.inj hs'
  obtain ⟨k1, k2, k3, k4, k5⟩ := hro
  have hln : ((xs.drop lo).take n).length = n := by simp; omega
  have hsub : ∀ (i : Nat) x, ((xs.drop lo).take n)[i]? = some x → i < n ∧ xs[lo + i]? = some x := fun i x h => by
   rw [List.getElem?_take] at h
   split at h
   ·rw [List.getElem?_drop] at h; exact ⟨by assumption, h⟩
   ·cases h
  have hmk : RD w (fun b => F b ∨ s.b = some b) (.slice sz ((xs.drop lo).take n)) (.slice A ((xs.drop lo).take n).length c) := by
   refine .slice sz _ A c (fun i j => (w.cell? ((A.getD default).add (i * sz + j))).getD undef) (by omega) (fun h0 => ?_) (fun x hx => k4 x ?_) (fun i x j d h1 h2 => ?_) (fun i x j d h1 h2 => ?_)
   ·obtain ⟨b, _, rfl⟩ := ha.1 (by omega)
    rfl
   ·exact List.mem_of_mem_drop (List.mem_of_mem_take hx)
   ·obtain ⟨hi, hx⟩ := hsub i x h1
    obtain ⟨b, hb, rfl⟩ := ha.1 (by omega)
    rcases k5 with ⟨k5, _⟩ | ⟨b', c', k5, k6, k7, k8⟩
    ·rw [hb] at k5; cases k5
    rw [hb] at k5
    obtain rfl := Option.some.inj k5
    have hi' := (List.getElem?_eq_some_iff.1 hx).1
    have hj := (List.getElem?_eq_some_iff.1 h2).1
    have hl := k4 x (List.mem_of_getElem? hx)
    have h3 : (lo + i + 1) * sz ≤ s.cap * sz := Nat.mul_le_mul_right _ (by omega)
    rw [Nat.succ_mul, Nat.add_mul] at h3
    have hcell : w.cell? ((⟨b, lo * s.sz, none⟩ : Addr).add (i * sz + j)) = some (c'.getD ((lo + i) * sz + j) undef) := by
     rw [add_plain, cell_of_heap k6, k1, show lo * sz + (i * sz + j) = (lo + i) * sz + j by rw [Nat.add_mul]; omega]
     exact getD_of (by rw [Nat.add_mul]; omega)
    simp only [Option.getD_some, hcell]
    exact ⟨(k8 _ x j d hx h2).1, _, rfl, .inr hb, hcell⟩
   ·obtain ⟨hi, hx⟩ := hsub i x h1
    obtain ⟨b, hb, rfl⟩ := ha.1 (by omega)
    rcases k5 with ⟨k5, _⟩ | ⟨b', c', k5, k6, k7, k8⟩
    ·rw [hb] at k5; cases k5
    rw [hb] at k5
    obtain rfl := Option.some.inj k5
    have hi' := (List.getElem?_eq_some_iff.1 hx).1
    have hj := (List.getElem?_eq_some_iff.1 h2).1
    have hl := k4 x (List.mem_of_getElem? hx)
    have h3 : (lo + i + 1) * sz ≤ s.cap * sz := Nat.mul_le_mul_right _ (by omega)
    rw [Nat.succ_mul, Nat.add_mul] at h3
    have hcell : w.cell? ((⟨b, lo * s.sz, none⟩ : Addr).add (i * sz + j)) = some (c'.getD ((lo + i) * sz + j) undef) := by
     rw [add_plain, cell_of_heap k6, k1, show lo * sz + (i * sz + j) = (lo + i) * sz + j by rw [Nat.add_mul]; omega]
     exact getD_of (by rw [Nat.add_mul]; omega)
    simp only [Option.getD_some, hcell]
    exact ((k8 _ x j d hx h2).2).mono (fun _ h => .inl h) (fun _ _ => rfl)
  rwa [hln] at hmk
theorem Wk.freezeG (id : Nat) {ty : TypeId} {sz : Nat} {xs : List (List D)} {t t' : List AV} {ds : List Nat} (ho : H[id]? = some (.arr ty sz xs)) (hlen : t'.length = t.length)
  (htell : ∀ (w : World) (F : Nat → Prop) (Γ : List Slot) (s : Slot) (tm : Array Value), Γ[id]? = some s → RO w F Γ s (.arr ty sz xs) → (∀ (j : Nat) av, t[j]? = some av → RV w F Γ av (tm.getD j undef)) →
   ∀ (j : Nat) av, t'[j]? = some av → RV w (fun b => F b ∨ s.b = some b) Γ av (tm.getD j undef)) :
  Wk E n0 t H ds t' ((H.set id .none).map (AObj.frz id sz xs)) ds := fun w F Γ tm df hS hT hD hn => by
 have hlt : id < Γ.length := by rw [hS.len]; exact (List.getElem?_eq_some_iff.1 ho).1
 obtain ⟨s, hs⟩ : ∃ s, Γ[id]? = some s := ⟨_, List.getElem?_eq_getElem hlt⟩
 have hro := hS.obj id s _ hs ho
 have hget : ∀ {i : Nat} {o : AObj}, ((H.set id .none).map (AObj.frz id sz xs))[i]? = some o → o.live = true → ∃ o', i ≠ id ∧ H[i]? = some o' ∧ o = o'.frz id sz xs := fun {i o} h hl => by
  rw [List.getElem?_map] at h
  cases hx : (H.set id .none)[i]? with
  | none => simp [hx] at h
  | some o' =>
   simp [hx] at h
   subst h
   rcases set_get hx with ⟨rfl, rfl, _⟩ | ⟨hne, h2⟩
   ·simp [AObj.frz, AObj.live] at hl
   ·exact ⟨o', fun e => hne e.symm, h2, rfl⟩
 refine ⟨fun b => F b ∨ s.b = some b, Γ, ⟨by simp [hS.len], ?_, ?_, ?_, ?_, ?_⟩, ⟨by rw [hT.1, hlen], ?_⟩, hD, rfl, rfl, rfl, Nat.le_refl _, fun _ _ _ => rfl, fun _ h => .inl h, ?_, ?_, fun _ _ => rfl, hn⟩
 ·intro i s' o h1 h2
  cases hl : o.live with
  | false => cases o <;> simp [AObj.live] at hl; trivial
  | true =>
   obtain ⟨o', hne, h3, rfl⟩ := hget h2 hl
   have := hS.obj i s' o' h1 h3
   have grow : RO w (fun b => F b ∨ s.b = some b) Γ s' o' := this.mono (fun _ h => .inl h) (fun _ _ => rfl) (fun _ _ h => h) (fun _ _ _ => rfl)
   cases o' with
   | none => trivial
   | defr => exact grow
   | map es => exact grow
   | mapb es bs clk => exact grow
   | iter m bs clk idx => exact grow
   | arr ty' sz' ys => exact grow
   | loop fn tt ps assign body st =>
    obtain ⟨b, l, h1, h2, h3, h4, h5, h6, h7, h8, h9⟩ := this
    refine ⟨b, l, h1, h2, h3, h4, h5, h6, h7, by rw [AV.frzL_map]; simpa using h8, fun j av hj => ?_⟩
    rw [AV.frzL_map, List.getElem?_map] at hj
    cases hx : tt[j]? with
    | none => simp [hx] at hj
    | some x => simp [hx] at hj; subst hj; exact (h9 j x hx).frz hs hro
   | var cs =>
    obtain ⟨b, c, ty', g1, g2, g3, g4⟩ := this
    refine ⟨b, c, ty', g1, g2, by rw [AV.frzL_map]; simpa using g3, fun j av hj => ?_⟩
    rw [AV.frzL_map, List.getElem?_map] at hj
    cases hx : cs[j]? with
    | none => simp [hx] at hj
    | some x => simp [hx] at hj; subst hj; exact ⟨(g4 j x hx).1, (g4 j x hx).2.frz hs hro⟩
 ·intro i s' o b h1 h2 h3 h4 hF
  obtain ⟨o', hne, h5, rfl⟩ := hget h2 h3
  rw [AObj.frz_live] at h3
  rcases hF with hF | hF
  ·exact hS.sep i s' o' b h1 h5 h3 h4 hF
  ·exact hne (hS.inj i id s' s o' _ b h1 hs h5 ho h3 rfl h4 hF)
 ·intro i j si sj oi oj b h1 h2 h3 h4 h5 h6 h7 h8
  obtain ⟨o1, _, g1, rfl⟩ := hget h3 h5
  obtain ⟨o2, _, g2, rfl⟩ := hget h4 h6
  exact hS.inj i j si sj o1 o2 b h1 h2 g1 g2 (by rw [← AObj.frz_live]; exact h5) (by rw [← AObj.frz_live]; exact h6) h7 h8
 ·rintro b (h | h)
  ·exact hS.low b h
  ·exact live_lt hS ⟨id, s, _, hs, ho, rfl, h⟩
 ·intro g sz' ys hg
  exact (hS.glob g sz' ys hg).mono (fun _ h => .inl h) (fun _ _ => rfl) (fun _ _ h => h)
 ·exact htell w F Γ s tm hs hro hT.2
 ·rintro b (h | h) _
  ·exact .inl h
  ·exact .inr ⟨id, s, _, hs, ho, rfl, h⟩
 ·rintro b ⟨i, s', o, h1, h2, h3, h4⟩ _
  obtain ⟨o', hne, h5, rfl⟩ := hget h2 h3
  exact ⟨i, s', o', h1, h5, by rw [← AObj.frz_live]; exact h3, h4⟩
theorem Wk.freeze (id : Nat) {ty : TypeId} {sz : Nat} {xs : List (List D)} {t : List AV} {ds : List Nat} (ho : H[id]? = some (.arr ty sz xs)) :
  Wk E n0 t H ds (AV.frzL id sz xs t) ((H.set id .none).map (AObj.frz id sz xs)) ds :=
 Wk.freezeG id ho (by rw [AV.frzL_map]; simp) fun w F Γ s tm hs hro hT j av hj => by
  rw [AV.frzL_map, List.getElem?_map] at hj
  cases hx : t[j]? with
  | none => simp [hx] at hj
  | some x => simp [hx] at hj; subst hj; exact (hT j x hx).frz hs hro
theorem Wk.frzpart (j id : Nat) {lo n : Nat} {ty : TypeId} {sz : Nat} {xs : List (List D)} {t : List AV} {ds : List Nat} (ho : H[id]? = some (.arr ty sz xs)) (ht : t[j]? = some (.spart id lo n)) (hle : lo + n ≤ xs.length) :
  Wk E n0 t H ds ((AV.frzL id sz xs t).set j (.d (.slice sz ((xs.drop lo).take n)))) ((H.set id .none).map (AObj.frz id sz xs)) ds :=
 Wk.freezeG id ho (by rw [AV.frzL_map]; simp) fun w F Γ s tm hs hro hT k av hk => by
  rcases set_get hk with ⟨rfl, rfl, _⟩ | ⟨_, hk⟩
  ·exact .d ((hT _ _ ht).frzPart hs hro hle)
  ·rw [AV.frzL_map, List.getElem?_map] at hk
   cases hx : t[k]? with
   | none => simp [hx] at hk
   | some x => simp [hx] at hk; subst hk; exact (hT k x hx).frz hs hro
theorem Wk.nilarr (j : Nat) (ty : TypeId) (sz : Nat) {t : List AV} {ds : List Nat} (ht : t[j]? = some (.d .nils)) :
  Wk E n0 t H ds (t.set j (.sfull H.length)) (H ++ [.arr ty sz []]) ds := fun w F Γ tm df hS hT hD hn => by
 let s : Slot := ⟨none, sz, 0, 0⟩
 have hS' : SR E w F (Γ ++ [s]) (H ++ [.arr ty sz []]) := hS.push ⟨rfl, rfl, by simp [s], by simp, .inl ⟨rfl, rfl⟩⟩ (fun b hb => by simp [s] at hb)
 have hup : ∀ (id : Nat) s', Γ[id]? = some s' → (Γ ++ [s])[id]? = some s' := pre_push Γ s
 refine ⟨F, Γ ++ [s], hS', ⟨by simp [hT.1], fun k av hk => ?_⟩, hD.mono hup, rfl, rfl, rfl, Nat.le_refl _, fun _ _ _ => rfl, fun _ h => h, fun _ h _ => .inl h, ?_, ?_, by simp; omega⟩
 ·rcases set_get hk with ⟨rfl, rfl, _⟩ | ⟨_, h2⟩
  ·have h0 := (hT.2 _ _ ht).of_d
   generalize tm.getD j undef = u at h0
   cases h0
   exact .sfull (s := s) (by rw [← hS.len]; exact push_get Γ s) (fun b hb => by simp [s] at hb)
  ·exact (hT.2 k av h2).mono (fun _ h => h) (fun _ _ => rfl) hup
 ·intro b hb _
  rcases live_push hS.len hb with h | h
  ·exact h
  ·simp [s] at h
 ·intro id hid
  rw [List.getElem?_append_left (by omega)]
end
end Go.Abs
end
section
set_option autoImplicit false
set_option linter.unusedVariables false
set_option linter.unusedSimpArgs false
namespace Go.Abs
def zk (k : Kd) (z : Value) : Bool := match k, z with
 | .struct _, .agg _ => true
 | .array _ _, .agg _ => true
 | .struct _, _ => false
 | .array _ _, _ => false
 | _, .agg _ => false
 | _, .tuple _ => false
 | _, _ => true
structure TyOk (P : Program) (t : TypeId) (i : TI) : Prop where
 desc : ∃ d, P.underlying t = some d ∧ i.k.fits d
 info : ∃ inf z, P.info? t = some inf ∧ inf.size = i.size ∧ inf.bytes = i.bytes ∧ inf.zero = some z ∧ z.cells.toList.map cst = i.zero.map .d ∧ i.zero.length = i.size ∧ i.zero.all D.one = true ∧ zk i.k z = true
theorem TyOk.info' {P : Program} {t : TypeId} {i : TI} (h : TyOk P t i) : ∃ inf z, P.info? t = some inf ∧ inf.size = i.size ∧ inf.bytes = i.bytes ∧ inf.zero = some z ∧
  z.cells.size = i.zero.length ∧ i.zero.length = i.size ∧ (∀ (j : Nat) d, i.zero[j]? = some d → (z.cells.getD j undef).oneCell' = true ∧ ∀ w F, RD w F d (z.cells.getD j undef)) ∧ ∀ w F, RD w F i.zv z := by
 obtain ⟨inf, z, h1, h2, h3, h4, h5, h6, h7, h8⟩ := h.info
 have hl : z.cells.size = i.zero.length := by
  have := congrArg List.length h5
  simpa using this
 have each : ∀ (j : Nat) d, i.zero[j]? = some d → (z.cells.getD j undef).oneCell' = true ∧ ∀ w F, RD w F d (z.cells.getD j undef) := fun j d hj => by
  have hlt : j < z.cells.size := by rw [hl]; exact (List.getElem?_eq_some_iff.1 hj).1
  have e : cst (z.cells.getD j undef) = .d d := by
   have h8 : (z.cells.toList.map cst)[j]? = (i.zero.map AV.d)[j]? := by rw [h5]
   rw [List.getElem?_map, List.getElem?_map, hj, Array.getElem?_toList, getD_of hlt] at h8
   simpa using h8
  have hrd : ∀ w F, RD w F d (z.cells.getD j undef) := fun w F => by
   have := cst_ok w F [] (z.cells.getD j undef)
   rw [e] at this
   exact this.of_d
  have h1 : d.one = true := List.all_eq_true.1 h7 d (List.mem_of_getElem? hj)
  exact ⟨by rw [(hrd ⟨#[], default, 0, default, default⟩ (fun _ => False)).one_iff]; exact h1, hrd⟩
 refine ⟨inf, z, h1, h2, h3, h4, hl, h6, each, fun w F => ?_⟩
 have agg : (∃ vs, z = .agg vs) → RD w F (.agg i.zero) z := by
  rintro ⟨vs, rfl⟩
  refine .agg _ vs hl (fun j hj => ?_) (fun j d hj => (each j d hj).2 w F)
  have : j < i.zero.length := by rw [← hl]; exact hj
  exact (each j _ (List.getElem?_eq_getElem this)).1
 have one : z.cells = #[z] → RD w F (i.zero.getD 0 .nilp) z := fun hc => by
  have hz : i.zero.length = 1 := by rw [← hl, hc]; rfl
  have hg : i.zero[0]? = some (i.zero.getD 0 .nilp) := by rw [List.getD_eq_getElem?_getD, List.getElem?_eq_getElem (by omega)]; rfl
  have := (each 0 _ hg).2 w F
  rw [hc] at this
  simpa using this
 unfold TI.zv
 cases hk : i.k <;> rw [hk] at h8 <;> simp only <;> cases z <;> first | exact agg ⟨_, rfl⟩ | exact one rfl | (simp [zk] at h8)
structure ExtOk (P : Program) (g : FuncId) (f : List AV → Option AV) : Prop where
 run : ∀ as v, f as = some v → ∀ w F Γ vs, RVL w F Γ as vs → ∃ u, (callFunc g vs).run P w = .ok (.value u) w ∧ RV w F Γ v u
theorem envOk_of {E : Env} (hty : ∀ t i, E.ty t = some i → TyOk E.P t i) (hm : E.P.follows .mixedOrders = true) (hx : ∀ g f, E.ext g = some f → ExtOk E.P g f) (hk : ∀ t g, E.key t = some g → KeyLaw E.P t g)
  (hc : ∀ t g, E.cmp t = some g → CmpLaw E.P t g := by intro t g h; cases h) : EnvOk E where
 key := hk
 cmp := hc
 desc t i h := (hty t i h).desc
 info t i h := (hty t i h).info'
 mixed := hm
 ext g f h := (hx g f h).run
def look {β : Type} : List (Nat × β) → Nat → Option β
 | [], _ => none
 | (a, b) :: l, t => if t = a then some b else look l t
theorem look_all {β : Type} {p : Nat → β → Prop} : ∀ {l : List (Nat × β)}, (∀ x ∈ l, p x.1 x.2) → ∀ t i, look l t = some i → p t i
 | [], _, t, i, h => by simp [look] at h
 | (a, b) :: l, hl, t, i, h => by
  simp only [look] at h
  split at h
  ·rename_i e
   subst e
   obtain rfl := Option.some.inj h
   exact hl (t, b) (by simp)
  ·exact look_all (fun x hx => hl x (by simp [hx])) t i h
/-! ### math/bits.Add64 -/
def add64A : List AV → Option AV
 | [.d (.int .u64 x), .d (.int .u64 y), .d (.int .u64 c)] => if 0 ≤ x ∧ 0 ≤ y ∧ 0 ≤ c ∧ c ≤ 1 then
   some (.d (.tup [.int .u64 ((x + y + c) % 18446744073709551616), .int .u64 ((x + y + c) / 18446744073709551616)])) else none
 | _ => none
theorem RVL_three {w : World} {F : Nat → Prop} {Γ : List Slot} {a b c : AV} {vs : Array Value} (h : RVL w F Γ [a, b, c] vs) : ∃ x y z, vs = #[x, y, z] ∧ RV w F Γ a x ∧ RV w F Γ b y ∧ RV w F Γ c z := by
 obtain ⟨l⟩ := vs
 obtain ⟨h1, h2⟩ := h
 match l with
 | [] => simp at h1
 | [_] => simp at h1
 | [_, _] => simp at h1
 | [x, y, z] => exact ⟨x, y, z, rfl, by simpa using h2 0 a rfl, by simpa using h2 1 b rfl, by simpa using h2 2 c rfl⟩
 | _ :: _ :: _ :: _ :: _ => simp at h1
theorem add64_ok {P : Program} {g : FuncId} {fn : Func} (hf : P.funcs[g]? = some fn) (hnm : (fn.name == "runtime.NumGoroutine") = false) (hb : fn.body.isNone = true) (hn : Extern.findNext fn = none)
  (he : Extern.find fn = some add64Entry) : ExtOk P g add64A := ⟨by
 intro as v h w F Γ vs hV
 unfold add64A at h
 split at h
 ·rename_i x y c
  split at h
  ·rename_i hc
   obtain rfl := Option.some.inj h
   obtain ⟨x', y', z', rfl, h1, h2, h3⟩ := RVL_three hV
   rw [RD_int h1.of_d, RD_int h2.of_d, RD_int h3.of_d]
   have := run_add64 (P := P) x y c hc.1 hc.2.1 hc.2.2.1 hc.2.2.2 w
   refine ⟨.tuple #[.int .u64 ((x + y + c) % 18446744073709551616), .int .u64 ((x + y + c) / 18446744073709551616)], by rw [run_callFunc_extern hf hnm hb hn he, this]; rfl, .d (.tup _ _ rfl fun j d hj => ?_)⟩
   match j with
   | 0 => simp at hj; subst hj; exact .int _ _
   | 1 => simp at hj; subst hj; exact .int _ _
   | j + 2 => simp at hj
  ·simp at h
 ·simp at h⟩
end Go.Abs
end
section
set_option autoImplicit false
set_option linter.unusedVariables false
set_option linter.unusedSimpArgs false
namespace Go.Abs
def argOk (x : D) : AV → Prop
 | .d y => y = x ∨ (y = .nils ∧ ∃ sz, x = .slice sz [])
 | .svalf sz xs => x = .slice sz xs
 | _ => False
def argsOk : List D → List AV → Prop
 | [], [] => True
 | x :: l, a :: m => argOk x a ∧ argsOk l m
 | _, _ => False
theorem nils_slice {w : World} {F : Nat → Prop} {v : Value} (sz : Nat) (h : RD w F .nils v) : RD w F (.slice sz []) v := by
 cases h
 exact .slice sz [] none 0 (fun _ _ => undef) (by simp) (by simp) (by simp) (fun i x j d h => by simp at h) (fun i x j d h => by simp at h)
theorem argOk_ok {x : D} {a : AV} (h : argOk x a) {w : World} {F : Nat → Prop} {Γ : List Slot} {v : Value} (hv : RV w F Γ a v) : RV w F Γ (.d x) v := by
 cases a <;> simp only [argOk] at h
 ·rcases h with rfl | ⟨rfl, sz, rfl⟩
  ·exact hv
  ·exact .d (nils_slice sz hv.of_d)
 ·subst h
  cases hv with
  | svalf h => exact .d h
theorem argsOk_ok : ∀ {xs : List D} {as : List AV}, argsOk xs as → xs.length = as.length ∧ ∀ (j : Nat) x, xs[j]? = some x → ∃ a, as[j]? = some a ∧ argOk x a
 | [], [], _ => ⟨rfl, fun j x h => by simp at h⟩
 | x :: l, a :: m, h => by
  obtain ⟨h1, h2⟩ := h
  obtain ⟨h3, h4⟩ := argsOk_ok h2
  refine ⟨by simp [h3], fun j y hj => ?_⟩
  cases j with
  | zero => simp at hj; subst hj; exact ⟨a, by simp, h1⟩
  | succ j => simpa using h4 j y (by simpa using hj)
 | [], _ :: _, h => h.elim
 | _ :: _, [], h => h.elim
section
variable {E : Env} {H : List AObj} {n0 : Nat}
theorem ACalls.args {g : FuncId} {xs : List D} {as : List AV} {K : AV → List AObj → Prop} (h : ACalls E g (xs.map .d) H K) (ha : argsOk xs as) : ACalls E g as H K := by
 refine ⟨h.1, fun w F Γ vs hS hV => h.2 w F Γ vs hS ?_⟩
 obtain ⟨h1, h2⟩ := argsOk_ok ha
 refine ⟨by rw [hV.1, List.length_map, h1], fun j av hj => ?_⟩
 rw [List.getElem?_map] at hj
 cases hx : xs[j]? with
 | none => simp [hx] at hj
 | some x =>
  simp [hx] at hj
  subst hj
  obtain ⟨a, ha1, ha2⟩ := h2 j x hx
  exact argOk_ok ha2 (hV.2 j a ha1)
theorem PCall.go {g : FuncId} {args : List D} {r : D} (h : PCall E g args r) {as : List AV} {K : AV → List AObj → Prop} (ha : argsOk args as) (hK : K (.d r) H) : ACalls E g as H K :=
 ((h.anywhere H).mono fun v H' ⟨h1, h2⟩ => by subst h1 h2; exact hK).args ha
theorem PCall.hush {g : FuncId} {args : List D} {r : D} (h : PCall E g args r) {as : List AV} {K : AV → Prop} (ha : argsOk args as) (hK : K (.d r)) : ∃ v, ACalls E g as H (fun r H' => r = v ∧ H' = H) ∧ K v :=
 ⟨_, (h.anywhere H).args ha, hK⟩
theorem WK.now {K : K3} {t : List AV} {ds : List Nat} (h : K t H ds) : WK E n0 K t H ds := WK.here h
theorem WK.fgt {K : K3} {t t' : List AV} {ds : List Nat} (h : fgt t' t) (k : WK E n0 K t' H ds) : WK E n0 K t H ds := WK.step (Wk.forget h) k
theorem WK.frz (id : Nat) {ty : TypeId} {sz : Nat} {xs : List (List D)} {K : K3} {t : List AV} {ds : List Nat} (ho : H[id]? = some (.arr ty sz xs))
  (k : WK E n0 K (AV.frzL id sz xs t) ((H.set id .none).map (AObj.frz id sz xs)) ds) : WK E n0 K t H ds := WK.step (Wk.freeze id ho) k
theorem WK.nil (j : Nat) (ty : TypeId) (sz : Nat) {K : K3} {t : List AV} {ds : List Nat} (ht : t[j]? = some (.d .nils)) (k : WK E n0 K (t.set j (.sfull H.length)) (H ++ [.arr ty sz []]) ds) : WK E n0 K t H ds :=
 WK.step (Wk.nilarr j ty sz ht) k
theorem WK.sel (σ : List Nat) {K : K3} {t t' : List AV} {H' : List AObj} (hs : Sb σ H H') (ht : tellL (rn σ H.length) σ.length t' t) (hn0 : ∀ id, id < n0 → σ[id]? = some id) (k : WK E n0 K t' H' []) : WK E n0 K t H [] :=
 WK.step (Wk.tell σ hs ht hn0) k
end
/-! ### Wraps -/
theorem wrapi {n : Int} (h : -9223372036854775808 ≤ n) (h' : n ≤ 9223372036854775807) : IntKind.wrap .i64 n = n := by
 simp only [IntKind.wrap, IntKind.signed, IntKind.bits]
 simp
 omega
theorem wrap_eq (n : Int) : IntKind.wrap .i64 n = (n + 9223372036854775808) % 18446744073709551616 - 9223372036854775808 := by
 simp only [IntKind.wrap, IntKind.signed, IntKind.bits]
 simp
 omega
theorem wrapu_eq (n : Int) : IntKind.wrap .u64 n = n % 18446744073709551616 := by
 simp [IntKind.wrap, IntKind.signed, IntKind.bits]
theorem bits32 : min 32 64 = 32 := rfl
theorem bits63 : min 63 64 = 63 := rfl
theorem and32 (n : Int) : ibits .and .i64 n 4294967295 = n % 4294967296 := by
 have h : (BitVec.ofInt 64 n &&& BitVec.ofInt 64 4294967295).toNat = (n % 18446744073709551616).toNat % 4294967296 := by
  rw [BitVec.toNat_and, BitVec.toNat_ofInt, BitVec.toNat_ofInt]
  exact Nat.and_two_pow_sub_one_eq_mod _ 32
 have e : ibits .and .i64 n 4294967295 = IntKind.wrap .i64 ((BitVec.ofInt 64 n &&& BitVec.ofInt 64 4294967295).toNat : Nat) := rfl
 rw [e, h, wrap_eq]
 omega
theorem fdiv32 (n : Int) : n.fdiv (2 ^ 32) = n / 4294967296 := by
 rw [show (2 : Int) ^ 32 = 4294967296 by rfl, Int.fdiv_eq_ediv_of_nonneg _ (by decide)]
theorem fdiv63 (n : Int) : n.fdiv (2 ^ 63) = n / 9223372036854775808 := by
 rw [show (2 : Int) ^ 63 = 9223372036854775808 by rfl, Int.fdiv_eq_ediv_of_nonneg _ (by decide)]
/-! ### Rows of whole numbers -/
def ints (xs : List Int) : List (List D) := xs.map fun n => [.int .i64 n]
def sl (xs : List Int) : D := .slice 1 (ints xs)
def intss (l : List (List Int)) : List (List D) := l.map fun x => [sl x]
def sll (l : List (List Int)) : D := .slice 1 (intss l)
theorem ints_length (xs : List Int) : (ints xs).length = xs.length := by simp [ints]
theorem intss_length (xs : List (List Int)) : (intss xs).length = xs.length := by simp [intss]
theorem cel_ints {xs : List Int} {i : Nat} (h : i < xs.length) : cel (ints xs) i 0 = .int .i64 (xs.getD i 0) := by
 simp [cel, ints, List.getD_eq_getElem?_getD, h]
theorem cel_intss {xs : List (List Int)} {i : Nat} (h : i < xs.length) : cel (intss xs) i 0 = .slice 1 (ints (xs.getD i [])) := by
 simp [cel, intss, sl, List.getD_eq_getElem?_getD, h]
theorem upd_ints {xs : List Int} {i : Nat} {v : Int} (h : i < xs.length) : updN (ints xs) i 0 [.int .i64 v] = ints (xs.set i v) := by
 simp [updN, ints, splice, List.map_set, List.getD_eq_getElem?_getD, h]
theorem ints_nil : ints [] = [] := rfl
theorem rep_ints (n : Nat) : List.replicate n [D.int .i64 0] = ints (List.replicate n 0) := by simp [ints]
end Go.Abs
end
section
set_option autoImplicit false
set_option linter.unusedVariables false
namespace Go.Abs
theorem lock_ex {α : Type} (a : α) : ∃ x : α, x = a := ⟨a, rfl⟩
noncomputable def lock {α : Type} (a : α) : α := Classical.choose (lock_ex a)
theorem lock_eq {α : Type} (a : α) : lock a = a := Classical.choose_spec (lock_ex a)
noncomputable def aregL : Env → Nat → List Oper → List Oper → K3 → K3 := lock areg
theorem aregL_eq : aregL = areg := lock_eq areg
noncomputable def adrawL : Env → List Oper → List Oper → K3 → K3 := lock adraw
theorem adrawL_eq : adrawL = adraw := lock_eq adraw
noncomputable def awpL : Env → Nat → Bool → Code → Q3 → K3 := lock awp
theorem awpL_eq : awpL = awp := lock_eq awp
/-! What stands behind -/
def Kat (K : AV → List AObj → Prop) (H : List AObj) : AV → Prop := fun v => K v H
def Kst (K : AV → List AObj → Prop) : List AObj → Prop := fun H' => K .dead H'
noncomputable def Kreg (E : Env) (n0 : Nat) (ops r : List Oper) (K : K3) (t : List AV) (dst : Option Tmp) (ds : List Nat) : AV → List AObj → Prop := fun v H' => aregL E n0 ops r K (putT t dst v) H' ds
noncomputable def KregW (E : Env) (n0 : Nat) (ops r : List Oper) (K : K3) (t : List AV) (dst : Option Tmp) (ds : List Nat) : AV → List AObj → Prop := fun v H' => WK E n0 (aregL E n0 ops r K) (putT t dst v) H' ds
noncomputable def Kdr (E : Env) (ops r : List Oper) (K : K3) (t : List AV) (dst : Option Tmp) (H : List AObj) (ds : List Nat) : AV → Prop := fun v => adrawL E ops r K (putT t dst v) H ds
noncomputable def Qseq (E : Env) (n0 : Nat) (rd : Bool) (b : Code) (Q : Q3) : Q3 := fun e t H ds => match e with
 | .normal => awpL E n0 rd b Q t H ds
 | e => Q e t H ds
def Qblk (id : Nat) (Q : Q3) : Q3 := fun e t H ds => match e with
 | .exit i => if i = id then Q .normal t H ds else Q (.exit i) t H ds
 | e => Q e t H ds
def Kbr (b : Bool) (X Y : K3) (t u : List AV) (H : List AObj) (ds : List Nat) : Prop := Br b (X t H ds) (Y u H ds)
noncomputable def Kgo (E : Env) (n0 : Nat) (ops : List Oper) (o : Oper) (r : List Oper) (K : K3) : K3 := fun t H ds => aop E o.op (ev E t) H (Kreg E n0 ops r K t o.dst ds) (KregW E n0 ops r K t o.dst ds)
noncomputable def Kno (E : Env) (n0 : Nat) (ops : List Oper) (o : Oper) (r : List Oper) (K : K3) : K3 := fun t H ds => aregL E n0 ops r K (putT t o.dst (.d (.tup []))) H ds
noncomputable def Dgo (E : Env) (ops : List Oper) (o : Oper) (r : List Oper) (K : K3) : K3 := fun t H ds => qop E o.op (ev E t) H (Kdr E ops r K t o.dst H ds)
noncomputable def Dno (E : Env) (ops : List Oper) (o : Oper) (r : List Oper) (K : K3) : K3 := fun t H ds => adrawL E ops r K (putT t o.dst (.d (.tup []))) H ds
def Vbr (b : Bool) (K : AV → Prop) (x y : AV) : Prop := Br b (K x) (K y)
def QC (E : Env) (g : FuncId) (args : List AV) (H : List AObj) (K : AV → Prop) : Prop := ∃ v, ACalls E g args H (fun r H' => r = v ∧ H' = H) ∧ K v
def DrawOK (l : List Oper) (n : Nat) : Prop := drawOK l.toArray n = true
def DRegL (E : Env) (n0 : Nat) (l : List Oper) (Q : Q3) (t : List AV) (H : List AObj) (ds : List Nat) : Prop := DReg E n0 l.toArray Q t H ds
def pickL (l : List Oper) (is : List Nat) : List Oper := is.filterMap fun i => l[i]?
def Draw2 (l : List Oper) : Prop := draw2 l.toArray = true
noncomputable def atailL : Env → List Oper → List Oper → List AV → List AV → List Oper → K3 → K3 := lock atail
theorem atailL_eq : atailL = atail := lock_eq atail
noncomputable def dgoL : Env → List Oper → List (Nat × List Nat × List Nat) → K3 → K3 := lock dgo
theorem dgoL_eq : dgoL = dgo := lock_eq dgo
def Same (tq : List AV) : K3 := fun t' _ _ => t' = tq
noncomputable def Kt (E : Env) (opl el : List Oper) (t0 tq : List AV) (r : List Oper) (K : K3) (t : List AV) (dst : Option Tmp) (ds : List Nat) : AV → List AObj → Prop := fun v H' => adrawL E opl el (Same tq) t0 H' ds ∧ atailL E opl el t0 tq r K (putT t dst v) H' ds
noncomputable def Kt0 (E : Env) (opl el : List Oper) (t0 : List AV) (r : List Oper) (K : K3) : K3 := fun tq H ds => atailL E opl el t0 tq r K tq H ds
noncomputable def KtGo (E : Env) (opl el : List Oper) (t0 tq : List AV) (o : Oper) (r : List Oper) (K : K3) : K3 := fun t H ds => aop E o.op (ev E t) H (Kt E opl el t0 tq r K t o.dst ds) (Kt E opl el t0 tq r K t o.dst ds)
noncomputable def KtNo (E : Env) (opl el : List Oper) (t0 tq : List AV) (o : Oper) (r : List Oper) (K : K3) : K3 := fun t H ds => atailL E opl el t0 tq r K (putT t o.dst (.d (.tup []))) H ds
noncomputable def Kdn (E : Env) (opl : List Oper) (p : List (Nat × List Nat × List Nat)) (K : K3) : K3 := fun t H ds => dgoL E opl p K t H ds
noncomputable def Kdet (E : Env) (opl : List Oper) (t : List AV) (dst : Option Tmp) (r l : List Oper) (p : List (Nat × List Nat × List Nat)) (K : K3) (ds : List Nat) : AV → List AObj → Prop := fun v H' => adrawL E opl r (Same (putT t dst v)) (putT t dst v) H' ds ∧ adrawL E opl l (Kdn E opl p K) (putT t dst v) H' ds
noncomputable def DtGo (E : Env) (opl : List Oper) (o : Oper) (r l : List Oper) (p : List (Nat × List Nat × List Nat)) (K : K3) : K3 := fun t H ds => aop E o.op (ev E t) H (Kdet E opl t o.dst r l p K ds) (Kdet E opl t o.dst r l p K ds)
noncomputable def DtNo (E : Env) (opl : List Oper) (o : Oper) (r l : List Oper) (p : List (Nat × List Nat × List Nat)) (K : K3) : K3 := fun t H ds => Kdet E opl t o.dst r l p K ds (.d (.tup [])) H
def Kapp (H : List AObj) (e : TypeId) (te : TI) (s : AV) (K : AV → List AObj → Prop) : List (List D) → Prop := fun ys => match s with
 | .d .nils => room ys.length te.bytes ∧ K (.sfull H.length) (H ++ [.arr e te.size ys])
 | .svalf sz xs => sz = te.size ∧ apSame xs ys (K (.svalf sz xs) H) ((0 < ys.length ∨ xs.length = 0) ∧ room (xs.length + ys.length) te.bytes ∧ K (.sfull H.length) (H ++ [.arr e te.size (xs ++ ys)]))
 | .sfull id => (match H.getD id .none with
  | .arr e' sz xs => e' = e ∧ sz = te.size ∧ room (xs.length + ys.length) te.bytes ∧ K (.sfull H.length) (H.set id .none ++ [.arr e te.size (xs ++ ys)])
  | _ => False)
 | _ => False
def Kcons (v : AV) (K : List AV → Prop) : List AV → Prop := fun l => K (v :: l)
def Kres (E : Env) (t : List AV) (H : List AObj) (r : List ResultVar) (K : List AV → Prop) : AV → Prop := fun v => aresL E t H r (Kcons v K)
def Kone (K : AV → List AObj → Prop) (H : List AObj) : List AV → Prop := fun l => K (one? l) H
def Kfin (E : Env) (fn : Func) (K : AV → List AObj → Prop) : K3 := fun t H ds => allDefr H ds ∧ aresL E t (offs H ds) fn.results.toList (Kone K (offs H ds))
def Kdl (K : AV → List AObj → Prop) : List AObj → Prop := fun H' => K (.d (.tup [])) H'
section
variable {E : Env} {n0 : Nat} {rd : Bool} {ops r : List Oper} {o : Oper} {K : K3} {Q : Q3} {t u : List AV} {H : List AObj} {ds : List Nat} {a b : Code}
theorem Kat_go {K : AV → List AObj → Prop} {v : AV} : Kat K H v = K v H := rfl
theorem Kst_go {K : AV → List AObj → Prop} : Kst K H = K .dead H := rfl
theorem Kreg_go {dst : Option Tmp} {v : AV} : Kreg E n0 ops r K t dst ds v H = aregL E n0 ops r K (putT t dst v) H ds := rfl
theorem KregW_go {dst : Option Tmp} {v : AV} : KregW E n0 ops r K t dst ds v H = WK E n0 (aregL E n0 ops r K) (putT t dst v) H ds := rfl
theorem Kdr_go {dst : Option Tmp} {v : AV} : Kdr E ops r K t dst H ds v = adrawL E ops r K (putT t dst v) H ds := rfl
theorem Qseq_normal : Qseq E n0 rd b Q .normal t H ds = awpL E n0 rd b Q t H ds := rfl
theorem Qseq_ret : Qseq E n0 rd b Q .ret t H ds = Q .ret t H ds := rfl
theorem Qseq_exit {i : Nat} : Qseq E n0 rd b Q (.exit i) t H ds = Q (.exit i) t H ds := rfl
theorem Qblk_normal {id : Nat} : Qblk id Q .normal t H ds = Q .normal t H ds := rfl
theorem Qblk_ret {id : Nat} : Qblk id Q .ret t H ds = Q .ret t H ds := rfl
theorem Qblk_exit {id i : Nat} : Qblk id Q (.exit i) t H ds = if i = id then Q .normal t H ds else Q (.exit i) t H ds := rfl
theorem Kbr_true {X Y : K3} : Kbr true X Y t u H ds = X t H ds := by simp [Kbr, Br]
theorem Kbr_false {X Y : K3} : Kbr false X Y t u H ds = Y u H ds := by simp [Kbr, Br]
theorem Kbr.mk {p : Bool} {X Y : K3} (h1 : p = true → X t H ds) (h2 : p = false → Y u H ds) : Kbr p X Y t u H ds := ⟨h1, h2⟩
theorem Vbr_true {K : AV → Prop} {x y : AV} : Vbr true K x y = K x := by simp [Vbr, Br]
theorem Vbr_false {K : AV → Prop} {x y : AV} : Vbr false K x y = K y := by simp [Vbr, Br]
theorem Kgo_go : Kgo E n0 ops o r K t H ds = aop E o.op (ev E t) H (Kreg E n0 ops r K t o.dst ds) (KregW E n0 ops r K t o.dst ds) := rfl
theorem Kno_go : Kno E n0 ops o r K t H ds = aregL E n0 ops r K (putT t o.dst (.d (.tup []))) H ds := rfl
theorem Dgo_go : Dgo E ops o r K t H ds = qop E o.op (ev E t) H (Kdr E ops r K t o.dst H ds) := rfl
theorem Dno_go : Dno E ops o r K t H ds = adrawL E ops r K (putT t o.dst (.d (.tup []))) H ds := rfl
theorem Kcons_go {v : AV} {K : List AV → Prop} {l : List AV} : Kcons v K l = K (v :: l) := rfl
theorem Kres_go {rs : List ResultVar} {K : List AV → Prop} {v : AV} : Kres E t H rs K v = aresL E t H rs (Kcons v K) := rfl
theorem Kone_go {K : AV → List AObj → Prop} {l : List AV} : Kone K H l = K (one? l) H := rfl
theorem Kfin_go {fn : Func} {K : AV → List AObj → Prop} : Kfin E fn K t H ds = (allDefr H ds ∧ aresL E t (offs H ds) fn.results.toList (Kone K (offs H ds))) := rfl
theorem allDefr_nil : allDefr H [] = True := rfl
theorem allDefr_cons {d : Nat} : allDefr H (d :: ds) = (H[d]? = some .defr ∧ allDefr (H.set d .none) ds) := rfl
theorem offs_nil : offs H [] = H := rfl
theorem offs_cons {d : Nat} : offs H (d :: ds) = offs (H.set d .none) ds := rfl
theorem Kdl_go {K : AV → List AObj → Prop} : Kdl K H = K (.d (.tup [])) H := rfl
theorem Kapp_nils {e : TypeId} {te : TI} {K : AV → List AObj → Prop} {ys : List (List D)} : Kapp H e te (.d .nils) K ys = (room ys.length te.bytes ∧ K (.sfull H.length) (H ++ [.arr e te.size ys])) := rfl
theorem Kapp_svalf {e : TypeId} {te : TI} {K : AV → List AObj → Prop} {sz : Nat} {xs ys : List (List D)} : Kapp H e te (.svalf sz xs) K ys = (sz = te.size ∧ apSame xs ys (K (.svalf sz xs) H) ((0 < ys.length ∨ xs.length = 0) ∧ room (xs.length + ys.length) te.bytes ∧ K (.sfull H.length) (H ++ [.arr e te.size (xs ++ ys)]))) := rfl
theorem apSame_new {ys : List (List D)} {A B : Prop} : apSame [] ys A B = B := rfl
theorem apSame_more {xs ys : List (List D)} {y : List D} {A B : Prop} : apSame xs (y :: ys) A B = B := by cases xs <;> rfl
theorem apSame_old {xs : List (List D)} {x : List D} {A B : Prop} : apSame (x :: xs) [] A B = A := rfl
theorem Kapp_sfull {e : TypeId} {te : TI} {K : AV → List AObj → Prop} {id : Nat} {ys : List (List D)} : Kapp H e te (.sfull id) K ys = (match H.getD id .none with
  | .arr e' sz xs => e' = e ∧ sz = te.size ∧ room (xs.length + ys.length) te.bytes ∧ K (.sfull H.length) (H.set id .none ++ [.arr e te.size (xs ++ ys)])
  | _ => False) := rfl
theorem aresL_nil {K : List AV → Prop} : aresL E t H [] K = K [] := rfl
theorem aresL_tmp {K : List AV → Prop} {i : Tmp} {rs : List ResultVar} : aresL E t H (.tmp i :: rs) K = aresL E t H rs (Kcons (t.getD i .dead) K) := rfl
theorem aresL_cell {K : List AV → Prop} {i : Tmp} {T : TypeId} {rs : List ResultVar} : aresL E t H (.cell i T :: rs) K = aload E T H (Kres E t H rs K) (t.getD i .dead) := rfl
theorem aret_ret {fn : Func} {K : AV → List AObj → Prop} : aret E n0 fn K .ret t H ds = WK E n0 (Kfin E fn K) t H ds := rfl
theorem aret_normal {fn : Func} {K : AV → List AObj → Prop} : aret E n0 fn K .normal t H ds = WK E n0 (Kfin E fn K) t H ds := rfl
theorem aregL_nil : aregL E n0 ops [] K t H ds = K t H ds := by rw [aregL_eq]; rfl
theorem aregL_plain {dst : Option Tmp} {op : Op} {ty : TypeId} {pos : String} {after : Array Edge} : aregL E n0 ops (⟨dst, op, ty, pos, after, none⟩ :: r) K t H ds = aop E op (ev E t) H (Kreg E n0 ops r K t dst ds) (KregW E n0 ops r K t dst ds) := by
 unfold Kreg KregW; rw [aregL_eq]; rfl
theorem aregL_guard {dst : Option Tmp} {op : Op} {ty : TypeId} {pos : String} {after : Array Edge} {j : Nat} {want : Bool} : aregL E n0 ops (⟨dst, op, ty, pos, after, some (j, want)⟩ :: r) K t H ds = match gval ops t j with
   | some (d, .d (.bool b)) => Kbr (b == want) (Kgo E n0 ops ⟨dst, op, ty, pos, after, some (j, want)⟩ r K) (Kno E n0 ops ⟨dst, op, ty, pos, after, some (j, want)⟩ r K) (t.set d (.d (.bool want))) (t.set d (.d (.bool (!want)))) H ds
   | some (_, .d (.tup [])) => Kno E n0 ops ⟨dst, op, ty, pos, after, some (j, want)⟩ r K t H ds
   | _ => False := by
 unfold Kbr Kgo Kno Kreg KregW; rw [aregL_eq]; rfl
theorem adrawL_nil : adrawL E ops [] K t H ds = K t H ds := by rw [adrawL_eq]; rfl
theorem adrawL_plain {dst : Option Tmp} {op : Op} {ty : TypeId} {pos : String} {after : Array Edge} : adrawL E ops (⟨dst, op, ty, pos, after, none⟩ :: r) K t H ds = qop E op (ev E t) H (Kdr E ops r K t dst H ds) := by
 unfold Kdr; rw [adrawL_eq]; rfl
theorem adrawL_guard {dst : Option Tmp} {op : Op} {ty : TypeId} {pos : String} {after : Array Edge} {j : Nat} {want : Bool} : adrawL E ops (⟨dst, op, ty, pos, after, some (j, want)⟩ :: r) K t H ds = match gval ops t j with
   | some (d, .d (.bool b)) => Kbr (b == want) (Dgo E ops ⟨dst, op, ty, pos, after, some (j, want)⟩ r K) (Dno E ops ⟨dst, op, ty, pos, after, some (j, want)⟩ r K) (t.set d (.d (.bool want))) (t.set d (.d (.bool (!want)))) H ds
   | some (_, .d (.tup [])) => Dno E ops ⟨dst, op, ty, pos, after, some (j, want)⟩ r K t H ds
   | _ => False := by
 unfold Kbr Dgo Dno Kdr; rw [adrawL_eq]; rfl
theorem DRegL.one {l : List Oper} (h : DrawOK l (qpre l).length) (k : adrawL E l (qpre l) (aregL E n0 l (qtail l) (Q .normal)) t H ds) : DRegL E n0 l Q t H ds := .inl ⟨h, by rw [aregL_eq, adrawL_eq] at k; exact k⟩
theorem DRegL.two (ei ti : List Nat) {l : List Oper} (h : Draw2 l) (h1 : eL l.toArray = ei) (h2 : tL l.toArray = ti) (k : adrawL E l (pickL l ei) (Kt0 E l (pickL l ei) t (pickL l ti) (Q .normal)) t H ds) : DRegL E n0 l Q t H ds := by
 have e : ∀ is, opsAt l.toArray is = pickL l is := fun is => by simp [opsAt, pickL]
 subst h1 h2
 refine .inr (.inl ⟨h, ?_⟩)
 rw [e, e]
 unfold Kt0 at k
 rw [atailL_eq, adrawL_eq] at k
 exact k
theorem DRegL.det (es li : List Nat) (p : List (Nat × List Nat × List Nat)) {l : List Oper} (h : ok3 l.toArray es = true) (h1 : lvL l.toArray es 0 = li) (h2 : planF l.toArray es 0 es = p) (k : adrawL E l (pickL l li) (Kdn E l p (Q .normal)) t H ds) : DRegL E n0 l Q t H ds := by
 subst h1 h2
 have e : ∀ is, opsAt l.toArray is = pickL l is := fun is => by simp [opsAt, pickL]
 refine .inr (.inr ⟨back_of h, det_any h ?_⟩)
 rw [adrawL_eq, ← e] at k
 unfold Kdn at k
 rw [dgoL_eq] at k
 exact k
theorem DRegL.any {l : List Oper} (h : backB l.toArray = true) (k : AAny E l.toArray (Q .normal) t H ds) : DRegL E n0 l Q t H ds := .inr (.inr ⟨h, k⟩)
theorem Kdn_go {p : List (Nat × List Nat × List Nat)} : Kdn E ops p K t H ds = dgoL E ops p K t H ds := rfl
theorem Kdet_go {dst : Option Tmp} {r l : List Oper} {p : List (Nat × List Nat × List Nat)} {v : AV} : Kdet E ops t dst r l p K ds v H = (adrawL E ops r (Same (putT t dst v)) (putT t dst v) H ds ∧ adrawL E ops l (Kdn E ops p K) (putT t dst v) H ds) := rfl
theorem dgoL_nil : dgoL E ops [] K t H ds = K t H ds := by rw [dgoL_eq]; rfl
theorem dgoL_cons {e : Nat} {r l : List Nat} {p : List (Nat × List Nat × List Nat)} : dgoL E ops ((e, r, l) :: p) K t H ds = match ops[e]? with
  | some o => (match o.guard with
   | none => aop E o.op (ev E t) H (Kdet E ops t o.dst (pickL ops r) (pickL ops l) p K ds) (Kdet E ops t o.dst (pickL ops r) (pickL ops l) p K ds)
   | some (j, want) => match gval ops t j with
    | some (_, .d (.bool b)) => Kbr (b == want) (DtGo E ops o (pickL ops r) (pickL ops l) p K) (DtNo E ops o (pickL ops r) (pickL ops l) p K) t t H ds
    | some (_, .d (.tup [])) => DtNo E ops o (pickL ops r) (pickL ops l) p K t H ds
    | _ => False)
  | none => False := by
 have h : ∀ is, opsAt ops.toArray is = pickL ops is := fun is => by simp [opsAt, pickL]
 unfold DtGo DtNo Kbr Kdet Kdn Same; rw [dgoL_eq, adrawL_eq, ← h, ← h]
 rfl
theorem DtGo_go {rl l : List Oper} {p : List (Nat × List Nat × List Nat)} : DtGo E ops o rl l p K t H ds = aop E o.op (ev E t) H (Kdet E ops t o.dst rl l p K ds) (Kdet E ops t o.dst rl l p K ds) := rfl
theorem DtNo_go {rl l : List Oper} {p : List (Nat × List Nat × List Nat)} : DtNo E ops o rl l p K t H ds = Kdet E ops t o.dst rl l p K ds (.d (.tup [])) H := rfl
theorem pickL_nil {l : List Oper} : pickL l [] = [] := rfl
theorem pickL_cons {l : List Oper} {i : Nat} {is : List Nat} : pickL l (i :: is) = match l[i]? with
  | some o => o :: pickL l is
  | none => pickL l is := by
 unfold pickL
 rw [List.filterMap_cons]
 cases l[i]? <;> rfl
theorem Same_go {tq : List AV} : Same tq t H ds = (t = tq) := rfl
theorem Kt_go {el : List Oper} {t0 tq : List AV} {dst : Option Tmp} {v : AV} : Kt E ops el t0 tq r K t dst ds v H = (adrawL E ops el (Same tq) t0 H ds ∧ atailL E ops el t0 tq r K (putT t dst v) H ds) := rfl
theorem Kt0_go {el : List Oper} {t0 : List AV} : Kt0 E ops el t0 r K t H ds = atailL E ops el t0 t r K t H ds := rfl
theorem KtGo_go {el : List Oper} {t0 tq : List AV} : KtGo E ops el t0 tq o r K t H ds = aop E o.op (ev E t) H (Kt E ops el t0 tq r K t o.dst ds) (Kt E ops el t0 tq r K t o.dst ds) := rfl
theorem KtNo_go {el : List Oper} {t0 tq : List AV} : KtNo E ops el t0 tq o r K t H ds = atailL E ops el t0 tq r K (putT t o.dst (.d (.tup []))) H ds := rfl
theorem atailL_nil {el : List Oper} {t0 tq : List AV} : atailL E ops el t0 tq [] K t H ds = K t H ds := by rw [atailL_eq]; rfl
theorem atailL_plain {el : List Oper} {t0 tq : List AV} {dst : Option Tmp} {op : Op} {ty : TypeId} {pos : String} {after : Array Edge} : atailL E ops el t0 tq (⟨dst, op, ty, pos, after, none⟩ :: r) K t H ds = aop E op (ev E t) H (Kt E ops el t0 tq r K t dst ds) (Kt E ops el t0 tq r K t dst ds) := by
 unfold Kt Same; rw [atailL_eq, adrawL_eq]; rfl
theorem atailL_guard {el : List Oper} {t0 tq : List AV} {dst : Option Tmp} {op : Op} {ty : TypeId} {pos : String} {after : Array Edge} {j : Nat} {want : Bool} : atailL E ops el t0 tq (⟨dst, op, ty, pos, after, some (j, want)⟩ :: r) K t H ds = match gval ops t j with
   | some (_, .d (.bool b)) => Kbr (b == want) (KtGo E ops el t0 tq ⟨dst, op, ty, pos, after, some (j, want)⟩ r K) (KtNo E ops el t0 tq ⟨dst, op, ty, pos, after, some (j, want)⟩ r K) t t H ds
   | some (_, .d (.tup [])) => KtNo E ops el t0 tq ⟨dst, op, ty, pos, after, some (j, want)⟩ r K t H ds
   | _ => False := by
 unfold Kbr KtGo KtNo Kt Same; rw [atailL_eq, adrawL_eq]; rfl
theorem awpL_skip : awpL E n0 rd .skip Q t H ds = Q .normal t H ds := by rw [awpL_eq]; rfl
theorem awpL_scope : awpL E n0 rd (.scope a) Q t H ds = awpL E n0 rd a (Qnog Q) t H ds := by rw [awpL_eq]; rfl
theorem Qnog_normal : Qnog Q .normal t H ds = Q .normal t H ds := rfl
theorem Qnog_ret : Qnog Q .ret t H ds = Q .ret t H ds := rfl
theorem Qnog_exit {i : Nat} : Qnog Q (.exit i) t H ds = Q (.exit i) t H ds := rfl
theorem awpL_label {l : Nat} : awpL E n0 rd (.label l) Q t H ds = Q .normal t H ds := by rw [awpL_eq]; rfl
theorem awpL_region {id : Nat} {l : List Oper} : awpL E n0 rd (.region id l.toArray false) Q t H ds = aregL E n0 l l (Q .normal) t H ds := by rw [awpL_eq, aregL_eq]; rfl
theorem awpL_draw {id : Nat} {l : List Oper} : awpL E n0 rd (.region id l.toArray true) Q t H ds = DRegL E n0 l Q t H ds := by rw [awpL_eq]; rfl
theorem awpL_seq : awpL E n0 rd (.seq a b) Q t H ds = awpL E n0 rd a (Qseq E n0 rd b Q) t H ds := by unfold Qseq; rw [awpL_eq]; rfl
theorem awpL_cond {c : Operand} : awpL E n0 rd (.cond c a b) Q t H ds = match ev E t c with
  | .d (.bool x) => Kbr x (awpL E n0 rd a Q) (awpL E n0 rd b Q) t t H ds
  | _ => False := by unfold Kbr; rw [awpL_eq]; rfl
theorem awpL_block {id : Nat} : awpL E n0 rd (.block id a) Q t H ds = awpL E n0 rd a (Qblk id Q) t H ds := by unfold Qblk; rw [awpL_eq]; rfl
theorem awpL_loop : awpL E n0 rd (.loop a) Q t H ds = ALoop E n0 (awpL E n0 rd a) Q t H ds := by rw [awpL_eq]; rfl
theorem awpL_exit {id : Nat} : awpL E n0 rd (.exit id) Q t H ds = Q (.exit id) t H ds := by rw [awpL_eq]; rfl
theorem awpL_rangeFunc {g : Operand} {ps : List Tmp} : awpL E n0 rd (.rangeFunc g ps.toArray a b) Q t H ds = (rd = false ∧ ARng E n0 (ev E t g) t H ds ps a b Q) := by rw [awpL_eq]; rfl
theorem awpL_ret : awpL E n0 rd .ret Q t H ds = Q .ret t H ds := by rw [awpL_eq]; rfl
/-! Operations -/
section
variable {ρ : Operand → AV} {K KW : AV → List AObj → Prop}
theorem aop_move {x : Operand} : aop E (.move x) ρ H K KW = K (ρ x) H := rfl
theorem aop_assign {x : Operand} : aop E (.assign x) ρ H K KW = K (ρ x) H := rfl
theorem aop_pick {c x y : Operand} : aop E (.pick c x y) ρ H K KW = (match ρ c with
  | .d (.bool p) => Vbr p (Kat K H) (ρ x) (ρ y)
  | _ => False) := rfl
theorem aop_load {T : TypeId} {x : Operand} : aop E (.load T x) ρ H K KW = aload E T H (Kat K H) (ρ x) := rfl
theorem aop_nilCheck {x : Operand} : aop E (.nilCheck x) ρ H K KW = anil (ρ x) (Kat K H) := rfl
theorem aop_binOp {op : BinOp} {T T' : TypeId} {x y : Operand} : aop E (.binOp op T x y T') ρ H K KW = aopBin E op T (isC x || isC y) (ρ x) (ρ y) (Kat K H) := rfl
theorem aop_unOp {op : UnOp} {T : TypeId} {x : Operand} : aop E (.unOp op T x) ρ H K KW = aun op (ρ x) (Kat K H) := rfl
theorem aop_convert {s d : TypeId} {x : Operand} : aop E (.convert s d x) ρ H K KW = aconv E s d (ρ x) (Kat K H) := rfl
theorem aop_makeInterface {T : TypeId} {x : Operand} : aop E (.makeInterface T x) ρ H K KW = (match kd E T with
  | some .iface => False
  | some _ => K (mkIface T (ρ x)) H
  | none => False) := rfl
theorem aop_makeFunc {f : FuncId} {first : Array Operand} {caps : Array Operand} : aop E (.makeFunc (.func f) first caps) ρ H K KW = (first.toList = [] ∧ K (mkFunc f (caps.toList.map ρ)) H) := rfl
theorem aop_slice {T : TypeId} {x : Operand} {lo hi mx : Option Operand} : aop E (.slice T x lo hi mx) ρ H K KW = aslice E T H (ρ x) (lo.map ρ) (hi.map ρ) (mx.map ρ) (Kat K H) := rfl
theorem aop_fieldAddr {s : TypeId} {x : Operand} {f : Nat} : aop E (.fieldAddr s x f) ρ H K KW = afldAddr E s (ρ x) f (Kat K H) := rfl
theorem aop_field {s : TypeId} {x : Operand} {f : Nat} : aop E (.field s x f) ρ H K KW = afld E s (ρ x) f (Kat K H) := rfl
theorem aop_indexAddr {T : TypeId} {x i : Operand} : aop E (.indexAddr T x i) ρ H K KW = aidx E T H (ρ x) (ρ i) (Kat K H) := rfl
theorem aop_extract {x : Operand} {i : Nat} : aop E (.extract x i) ρ H K KW = aext (ρ x) i (Kat K H) := rfl
theorem aop_build {T : TypeId} {ps : Array (Nat × Operand)} : aop E (.build T ps) ρ H K KW = (known E T = true ∧ abuild E T (ps.toList.map fun (i, x) => (i, ρ x)) (Kat K H)) := rfl
theorem aop_box {T : TypeId} {x : Operand} : aop E (.box T x) ρ H K KW = abox H (ρ x) K := rfl
theorem aop_new {T : TypeId} : aop E (.alloc T) ρ H K KW = aalloc E T H K := rfl
theorem aop_store {T : TypeId} {a x : Operand} : aop E (.store T a x) ρ H K KW = astore E T H (ρ a) (ρ x) (Kst K) := rfl
theorem aop_buildSlice {T : TypeId} {n : Nat} {ps : Array (Nat × Operand)} : aop E (.buildSlice T n ps) ρ H K KW = abuildS E T n (ps.toList.map fun (i, x) => (i, ρ x)) (Kat K H) := rfl
theorem aop_makeSlice {T : TypeId} {l c : Operand} : aop E (.makeSlice T l c) ρ H K KW = amake E T H (ρ l) (ρ c) K := rfl
theorem aop_makeMap {T : TypeId} {x : Option Operand} : aop E (.makeMap T x) ρ H K KW = amkmap E T (x.map ρ) H K := rfl
theorem aop_mapUpdate {T : TypeId} {m k x : Operand} : aop E (.mapUpdate T m k x) ρ H K KW = amapup E T H (ρ m) (ρ k) (ρ x) (Kst K) := rfl
theorem aop_insert {T : TypeId} {m k x : Operand} : aop E (.insert T m k x) ρ H K KW = amapup E T H (ρ m) (ρ k) (ρ x) (Kst K) := rfl
theorem aop_range {T : TypeId} {x : Operand} : aop E (.range T x) ρ H K KW = arange E T H (ρ x) K := rfl
theorem aop_next {x : Operand} {b : Bool} : aop E (.next x b) ρ H K KW = anext E b H (ρ x) K := rfl
theorem aop_entry {x : Operand} : aop E (.entry x) ρ H K KW = aentry H (ρ x) (Kat K H) := rfl
theorem aop_lookup {T : TypeId} {x i : Operand} {ok : Bool} : aop E (.lookup T x i ok) ρ H K KW = alook E T H (ρ x) (ρ i) ok (Kat K H) := rfl
theorem aop_delete {m k : Operand} {T T' : TypeId} : aop E (.call ⟨.builtin .delete, #[m, k], #[T, T']⟩) ρ H K KW = adel E T H (ρ m) (ρ k) (Kdl K) := rfl
theorem aop_clear {m : Operand} {T : TypeId} : aop E (.call ⟨.builtin .clear, #[m], #[T]⟩) ρ H K KW = aclear E T H (ρ m) (Kdl K) := rfl
theorem aop_append {s x : Operand} {T T' : TypeId} : aop E (.call ⟨.builtin .append, #[s, x], #[T, T']⟩) ρ H K KW = aapp2 E T T' H (ρ s) (ρ x) K := rfl
theorem aop_cap {args : Array Operand} {Ts : Array TypeId} : aop E (.call ⟨.builtin .cap, args, Ts⟩) ρ H K KW = apureCall E ⟨.builtin .cap, args, Ts⟩ ρ H (Kat K H) := rfl
theorem aop_len {args : Array Operand} {Ts : Array TypeId} : aop E (.call ⟨.builtin .len, args, Ts⟩) ρ H K KW = apureCall E ⟨.builtin .len, args, Ts⟩ ρ H (Kat K H) := rfl
theorem aop_max {args : Array Operand} {Ts : Array TypeId} : aop E (.call ⟨.builtin .max, args, Ts⟩) ρ H K KW = apureCall E ⟨.builtin .max, args, Ts⟩ ρ H (Kat K H) := rfl
theorem aop_min {args : Array Operand} {Ts : Array TypeId} : aop E (.call ⟨.builtin .min, args, Ts⟩) ρ H K KW = apureCall E ⟨.builtin .min, args, Ts⟩ ρ H (Kat K H) := rfl
theorem aop_call {f : Operand} {args : Array Operand} {Ts : Array TypeId} : aop E (.call ⟨.value f, args, Ts⟩) ρ H K KW = (match ρ f with
  | .d (.func g caps) => acallF E g (args.toList.map ρ ++ caps.map .d) H K KW
  | .func g caps => acallF E g (args.toList.map ρ ++ caps) H K KW
  | .yield id => AYield E id (args.toList.map ρ) H KW
  | _ => False) := rfl
end
section
variable {ρ : Operand → AV} {K : AV → Prop}
theorem qop_move {x : Operand} : qop E (.move x) ρ H K = K (ρ x) := rfl
theorem qop_assign {x : Operand} : qop E (.assign x) ρ H K = K (ρ x) := rfl
theorem qop_pick {c x y : Operand} : qop E (.pick c x y) ρ H K = (match ρ c with
  | .d (.bool p) => Vbr p K (ρ x) (ρ y)
  | _ => False) := rfl
theorem qop_load {T : TypeId} {x : Operand} : qop E (.load T x) ρ H K = aload E T H K (ρ x) := rfl
theorem qop_nilCheck {x : Operand} : qop E (.nilCheck x) ρ H K = anil (ρ x) K := rfl
theorem qop_binOp {op : BinOp} {T T' : TypeId} {x y : Operand} : qop E (.binOp op T x y T') ρ H K = abin E op T (isC x || isC y) (ρ x) (ρ y) K := rfl
theorem qop_unOp {op : UnOp} {T : TypeId} {x : Operand} : qop E (.unOp op T x) ρ H K = aun op (ρ x) K := rfl
theorem qop_convert {s d : TypeId} {x : Operand} : qop E (.convert s d x) ρ H K = aconv E s d (ρ x) K := rfl
theorem qop_makeInterface {T : TypeId} {x : Operand} : qop E (.makeInterface T x) ρ H K = (match kd E T with
  | some .iface => False
  | some _ => K (mkIface T (ρ x))
  | none => False) := rfl
theorem qop_makeFunc {f : FuncId} {first : Array Operand} {caps : Array Operand} : qop E (.makeFunc (.func f) first caps) ρ H K = (first.toList = [] ∧ K (mkFunc f (caps.toList.map ρ))) := rfl
theorem qop_slice {T : TypeId} {x : Operand} {lo hi mx : Option Operand} : qop E (.slice T x lo hi mx) ρ H K = aslice E T H (ρ x) (lo.map ρ) (hi.map ρ) (mx.map ρ) K := rfl
theorem qop_fieldAddr {s : TypeId} {x : Operand} {f : Nat} : qop E (.fieldAddr s x f) ρ H K = afldAddr E s (ρ x) f K := rfl
theorem qop_field {s : TypeId} {x : Operand} {f : Nat} : qop E (.field s x f) ρ H K = afld E s (ρ x) f K := rfl
theorem qop_indexAddr {T : TypeId} {x i : Operand} : qop E (.indexAddr T x i) ρ H K = aidx E T H (ρ x) (ρ i) K := rfl
theorem qop_lookup {T : TypeId} {x i : Operand} {ok : Bool} : qop E (.lookup T x i ok) ρ H K = alook E T H (ρ x) (ρ i) ok K := rfl
theorem qop_extract {x : Operand} {i : Nat} : qop E (.extract x i) ρ H K = aext (ρ x) i K := rfl
theorem qop_build {T : TypeId} {ps : Array (Nat × Operand)} : qop E (.build T ps) ρ H K = (known E T = true ∧ abuild E T (ps.toList.map fun (i, x) => (i, ρ x)) K) := rfl
theorem qop_buildSlice {T : TypeId} {n : Nat} {ps : Array (Nat × Operand)} : qop E (.buildSlice T n ps) ρ H K = abuildS E T n (ps.toList.map fun (i, x) => (i, ρ x)) K := rfl
theorem qop_len {args : Array Operand} {Ts : Array TypeId} : qop E (.call ⟨.builtin .len, args, Ts⟩) ρ H K = apureCall E ⟨.builtin .len, args, Ts⟩ ρ H K := rfl
theorem qop_cap {args : Array Operand} {Ts : Array TypeId} : qop E (.call ⟨.builtin .cap, args, Ts⟩) ρ H K = apureCall E ⟨.builtin .cap, args, Ts⟩ ρ H K := rfl
theorem qop_max {args : Array Operand} {Ts : Array TypeId} : qop E (.call ⟨.builtin .max, args, Ts⟩) ρ H K = apureCall E ⟨.builtin .max, args, Ts⟩ ρ H K := rfl
theorem qop_min {args : Array Operand} {Ts : Array TypeId} : qop E (.call ⟨.builtin .min, args, Ts⟩) ρ H K = apureCall E ⟨.builtin .min, args, Ts⟩ ρ H K := rfl
theorem qop_call {f : Operand} {args : Array Operand} {Ts : Array TypeId} : qop E (.call ⟨.value f, args, Ts⟩) ρ H K = (match ρ f with
  | .d (.func g caps) => qcallF E g (args.toList.map ρ ++ caps.map .d) H K
  | .func g caps => qcallF E g (args.toList.map ρ ++ caps) H K
  | _ => False) := rfl
theorem qcallF_go {g : FuncId} {args : List AV} : qcallF E g args H K = (match E.ext g with
  | some f => (match f args with
   | some v => K v
   | none => False)
  | none => QC E g args H K) := rfl
theorem acallF_go {g : FuncId} {args : List AV} {K KW : AV → List AObj → Prop} : acallF E g args H K KW = (match E.ext g with
  | some f => (match f args with
   | some v => K v H
   | none => False)
  | none => ACalls E g args H KW) := rfl
theorem aapp_go {T T' : TypeId} {s x : AV} {K : AV → List AObj → Prop} : aapp E T T' H s x K = (match kd E T with
  | some (.slice e) => (match E.ty e with
   | some te => T' = T ∧ te.size ≠ 0 ∧ srcRows H te.size x (Kapp H e te s K)
   | none => False)
  | _ => False) := rfl
end
end
theorem acalls_of {E : Env} (hE : EnvOk E) {f : FuncId} {fn : Func} {c : Code} {args : List AV} {H : List AObj} {K : AV → List AObj → Prop} (hf : E.P.funcs[f]? = some fn) (hb : fn.body = some c) (hnm : (fn.name == "runtime.NumGoroutine") = false)
  {m : Nat} (hm : fn.ntmps - args.length = m) (h : awpL E H.length false c (aret E H.length fn K) (args ++ List.replicate m .dead) H []) : ACalls E f args H K :=
 acalls_of_awp hE hf hb hnm hm (by rw [awpL_eq] at h; exact h)
/-! Objects told anew, arm by arm -/
section
variable {r : Nat → Nat} {n : Nat}
theorem ren_none : AObj.ren r .none = .none := rfl
theorem ren_var {cs : List AV} : AObj.ren r (.var cs) = .var (AV.renL r cs) := rfl
theorem ren_arr {ty : TypeId} {sz : Nat} {xs : List (List D)} : AObj.ren r (.arr ty sz xs) = .arr ty sz xs := rfl
theorem ren_map {es : List (D × D)} : AObj.ren r (.map es) = .map es := rfl
theorem ren_mapb {es : List (D × D)} {bs : List Nat} {c : Nat} : AObj.ren r (.mapb es bs c) = .mapb es bs c := rfl
theorem ren_iter {m c : Nat} {bs idx : List Nat} : AObj.ren r (.iter m bs c idx) = .iter (r m) bs c idx := rfl
theorem ren_loop {fn : FuncId} {t : List AV} {ps : List Tmp} {a b : Code} {st : Option (Option Code)} : AObj.ren r (.loop fn t ps a b st) = .loop fn (AV.renL r t) ps a b st := rfl
theorem ren_defr : AObj.ren r .defr = .defr := rfl
theorem bel_none : AObj.bel n .none = true := rfl
theorem bel_var {cs : List AV} : AObj.bel n (.var cs) = AV.belL n cs := rfl
theorem bel_arr {ty : TypeId} {sz : Nat} {xs : List (List D)} : AObj.bel n (.arr ty sz xs) = true := rfl
theorem bel_map {es : List (D × D)} : AObj.bel n (.map es) = true := rfl
theorem bel_mapb {es : List (D × D)} {bs : List Nat} {c : Nat} : AObj.bel n (.mapb es bs c) = true := rfl
theorem bel_iter {m c : Nat} {bs idx : List Nat} : AObj.bel n (.iter m bs c idx) = decide (m < n) := rfl
theorem bel_loop {fn : FuncId} {t : List AV} {ps : List Tmp} {a b : Code} {st : Option (Option Code)} : AObj.bel n (.loop fn t ps a b st) = AV.belL n t := rfl
theorem bel_defr : AObj.bel n .defr = true := rfl
end
/-! Telling anew, by what can be seen -/
def sbl (r : Nat → Nat) (n : Nat) (H : List AObj) : List Nat → List AObj → Prop
 | [], [] => True
 | i :: σ, o :: os => (o = .none ∨ (H[i]? = some (o.ren r) ∧ o.bel n = true)) ∧ sbl r n H σ os
 | _, _ => False
theorem sbl_get {r : Nat → Nat} {n : Nat} {H : List AObj} : ∀ {σ : List Nat} {os : List AObj}, sbl r n H σ os → os.length = σ.length ∧ ∀ (j i : Nat) (o : AObj), σ[j]? = some i → os[j]? = some o → o.live = true → H[i]? = some (o.ren r) ∧ o.bel n = true
 | [], [], _ => ⟨rfl, fun j i o h => by simp at h⟩
 | i :: σ, o :: os, h => by
  obtain ⟨h1, h2⟩ := h
  obtain ⟨h3, h4⟩ := sbl_get h2
  refine ⟨by simp [h3], fun j i' o' a b c => ?_⟩
  cases j with
  | zero =>
   simp at a b
   subst a b
   rcases h1 with h1 | h1
   ·rw [h1] at c; cases c
   ·exact h1
  | succ j => exact h4 j i' o' (by simpa using a) (by simpa using b) c
 | [], _ :: _, h => h.elim
 | _ :: _, [], h => h.elim
theorem WK.pick {E : Env} {n0 : Nat} {K : K3} {t : List AV} {H : List AObj} (σ : List Nat) {t' : List AV} {H' : List AObj} (hs : sbl (rn σ H.length) σ.length H σ H') (hnd : σ.Nodup) (hin : ∀ i ∈ σ, i < H.length)
  (ht : tellL (rn σ H.length) σ.length t' t) (hn0 : ∀ id, id < n0 → σ[id]? = some id) (k : WK E n0 K t' H' []) : WK E n0 K t H [] :=
 WK.sel σ ⟨(sbl_get hs).1, hnd, hin, (sbl_get hs).2⟩ ht hn0 k
/-! Loops -/
def Qloop (E : Env) (n0 : Nat) (I : Nat → K3) (k : Nat) (Q : Q3) : Q3 := fun e t H ds => match e with
 | .normal => ∃ k', k' < k ∧ WK E n0 (I k') t H ds
 | e => Q e t H ds
section
variable {E : Env} {n0 : Nat} {I : Nat → K3} {k : Nat} {Q : Q3} {t : List AV} {H : List AObj} {ds : List Nat}
theorem Qloop_normal : Qloop E n0 I k Q .normal t H ds = ∃ k', k' < k ∧ WK E n0 (I k') t H ds := rfl
theorem Qloop_ret : Qloop E n0 I k Q .ret t H ds = Q .ret t H ds := rfl
theorem Qloop_exit {i : Nat} : Qloop E n0 I k Q (.exit i) t H ds = Q (.exit i) t H ds := rfl
theorem ALoop.mk {body : Q3 → K3} (I : Nat → K3) (k0 : Nat) (h0 : WK E n0 (I k0) t H ds) (hr : ∀ k t H ds, I k t H ds → body (Qloop E n0 I k Q) t H ds) : ALoop E n0 body Q t H ds :=
 ⟨I, ⟨k0, h0⟩, hr⟩
end
/-! Loops over functions -/
noncomputable def QasgL (E : Env) (n0 id : Nat) (body : Code) (K : AV → List AObj → Prop) : Q3 := fun e t H ds => match e with
 | .normal => ∃ fn t' ps a, H[id]? = some (.loop fn t' ps a body (some none)) ∧ awpL E n0 true body (Qrnd E n0 id K) t (H.set id (.loop fn t' ps a body none)) ds
 | _ => False
section
variable {E : Env} {n0 : Nat} {Q : Q3} {t : List AV} {H : List AObj} {ds : List Nat} {a b : Code}
theorem QasgL_eq {id : Nat} {K : AV → List AObj → Prop} : Qasg E n0 id b K = QasgL E n0 id b K := by
 funext e t H ds
 unfold Qasg QasgL
 rw [awpL_eq]
 cases e <;> rfl
theorem QasgL_normal {id : Nat} {K : AV → List AObj → Prop} : QasgL E n0 id b K .normal t H ds = ∃ fn t' ps a, H[id]? = some (.loop fn t' ps a b (some none)) ∧ awpL E n0 true b (Qrnd E n0 id K) t (H.set id (.loop fn t' ps a b none)) ds := rfl
theorem AYield.mk (hE : EnvOk E) {id : Nat} {args : List AV} {K : AV → List AObj → Prop} {fn : FuncId} {t : List AV} {ps : List Tmp} {assign body : Code}
  (ho : H[id]? = some (.loop fn t ps assign body (some none))) (hl : args.length = ps.length) (h : awpL E H.length true assign (QasgL E H.length id body K) (putPs t ps args) H []) : AYield E id args H K :=
 ayield_of hE ho hl (by rw [← awpL_eq, QasgL_eq]; exact h)
theorem AYield.skip (hE : EnvOk E) {id : Nat} {args : List AV} {K : AV → List AObj → Prop} {fn : FuncId} {t : List AV} {ps : List Tmp} {body : Code}
  (ho : H[id]? = some (.loop fn t ps .skip body (some none))) (hl : args.length = ps.length) (h : awpL E H.length true body (Qrnd E H.length id K) (putPs t ps args) (H.set id (.loop fn t ps .skip body none)) []) : AYield E id args H K :=
 AYield.mk hE ho hl (by rw [awpL_skip]; exact ⟨fn, t, ps, .skip, ho, h⟩)
theorem ARng.func {f : FuncId} {caps : List AV} {ps : List Tmp} (h : ∀ fn, ACalls E f (.yield (H.length + 1) :: caps) (H ++ [.defr, .loop fn t ps a b (some none)]) (fun _ H' => Krng E n0 Q (H.length + 1) t (H.length :: ds) H')) :
  ARng E n0 (.func f caps) t H ds ps a b Q := h
theorem ARng.funcG {f : FuncId} {caps : List AV} {ps : List Tmp} (h : ∀ fn lo, lo = .loop fn t ps a b (some none) → ACalls E f (.yield (H.length + 1) :: caps) (H ++ [.defr, lo]) (fun _ H' => Krng E n0 Q (H.length + 1) t (H.length :: ds) H')) :
  ARng E n0 (.func f caps) t H ds ps a b Q := fun fn => h fn _ rfl
theorem Krng.go {l : Nat} {fn : FuncId} {t' : List AV} {ps : List Tmp} (h : H[l]? = some (.loop fn t' ps a b (some none))) (k : WK E n0 (Q .normal) t (H.set l .none) ds) : Krng E n0 Q l t ds H := ⟨fn, t', ps, a, b, none, h, k⟩
theorem Krng.ret {l : Nat} {fn : FuncId} {t' : List AV} {ps : List Tmp} (h : H[l]? = some (.loop fn t' ps a b (some (some .ret)))) (k : WK E n0 (Q .ret) t (H.set l .none) ds) : Krng E n0 Q l t ds H := ⟨fn, t', ps, a, b, _, h, k⟩
theorem Krng.exit {l i : Nat} {fn : FuncId} {t' : List AV} {ps : List Tmp} (h : H[l]? = some (.loop fn t' ps a b (some (some (.exit i))))) (k : WK E n0 (Q (.exit i)) t (H.set l .none) ds) : Krng E n0 Q l t ds H := ⟨fn, t', ps, a, b, _, h, k⟩
theorem Qrnd_normal {id : Nat} {K : AV → List AObj → Prop} : Qrnd E n0 id K .normal t H ds = WK E n0 (fun _ H' _ => ∃ fn t' ps a b, H'[id]? = some (.loop fn t' ps a b none) ∧ K (.d (.bool true)) (H'.set id (.loop fn t' ps a b (some none)))) t H ds := rfl
theorem Qrnd_ret {id : Nat} {K : AV → List AObj → Prop} : Qrnd E n0 id K .ret t H ds = WK E n0 (fun _ H' _ => ∃ fn t' ps a b, H'[id]? = some (.loop fn t' ps a b none) ∧ K (.d (.bool false)) (H'.set id (.loop fn t' ps a b (some (some .ret))))) t H ds := rfl
theorem Qrnd_exit {id i : Nat} {K : AV → List AObj → Prop} : Qrnd E n0 id K (.exit i) t H ds = WK E n0 (fun _ H' _ => ∃ fn t' ps a b, H'[id]? = some (.loop fn t' ps a b none) ∧ K (.d (.bool false)) (H'.set id (.loop fn t' ps a b (some (some (.exit i)))))) t H ds := rfl
theorem Rng.mk {m : Nat} {es : List (D × D)} {K : AV → List AObj → Prop} (h : ∀ (bs : List Nat) (clk : Nat), bs.length = es.length → bs.Nodup → (∀ x ∈ bs, x < clk) → K (.pvar H.length 0) (H.set m (.mapb es bs clk) ++ [.iter m bs clk []])) : Rng m es H K := h
theorem Nxt.mk {i m clk : Nat} {bs idx : List Nat} {es : List (D × D)} {K : AV → List AObj → Prop} (h0 : ∀ j ∈ idx, j < es.length)
  (h1 : ∀ j, j < es.length → j ∉ idx → K (.d (.tup [.bool true, (entryOf es j).1, (entryOf es j).2])) (H.set i (.iter m bs clk (idx ++ [j])))) (h2 : (∀ j, j < es.length → j ∈ idx) → K (.d (.tup [.bool false])) H) : Nxt i m bs clk idx es H K := ⟨h0, h1, h2⟩
end
noncomputable def B (p : Prop) : Bool := @decide p (Classical.propDecidable p)
theorem B_true {p : Prop} (h : p) : B p = true := by simp [B, h]
theorem B_false {p : Prop} (h : ¬ p) : B p = false := by simp [B, h]
theorem B_True : B True = true := B_true trivial
theorem B_False : B False = false := B_false id
theorem B_iff {p : Prop} : B p = true ↔ p := by simp [B]
theorem B_not {p : Prop} : B p = false ↔ ¬ p := by simp [B]
theorem B_dec {p : Prop} [Decidable p] : decide p = B p := by by_cases h : p <;> simp [B, h]
theorem beq_nat (m n : Nat) : ((m : Int) == (n : Int)) = B (m = n) := by
 rw [← B_dec, Bool.eq_iff_iff]; simp; omega
theorem bne_nat (m n : Nat) : ((m : Int) != (n : Int)) = B (m ≠ n) := by
 rw [← B_dec, Bool.eq_iff_iff]; simp; omega
theorem succ64 {i n : Nat} (h : i < n) (hn : n ≤ 4611686018427387904) : IntKind.wrap .i64 ((i : Int) + 1) = ((i + 1 : Nat) : Int) := by
 rw [wrapi (by omega) (by omega)]; rfl
theorem ACalls.thus {E : Env} {g : FuncId} {as : List AV} {H H1 : List AObj} {v : AV} {K : AV → List AObj → Prop} (h : ACalls E g as H fun r H' => r = v ∧ H' = H1) (hK : K v H1) : ACalls E g as H K :=
 h.mono fun r H' ⟨h1, h2⟩ => by subst h1 h2; exact hK
theorem PCall.quiet' {E : Env} {H : List AObj} {g : FuncId} {args : List D} {r : D} (h : PCall E g args r) {as : List AV} {K : AV → Prop} (ha : argsOk args as) (hK : K (.d r)) : QC E g as H K := h.hush ha hK
end Go.Abs
end
section
set_option autoImplicit false
set_option linter.unusedVariables false
set_option linter.unusedSimpArgs false
namespace Go.Abs
open Go.ChangeShapes Go.WideShapes Go.ChangeAt Go.RowKit
def Old (w : World) : Nat → Prop := fun b => b < w.heap.size
structure Rdg (P : Program) (t : TypeId) {α : Type} (enc : α → List D) (φ : α → Prop) : Prop where
 read : ∀ {H : Type} {en : TypeId × Value → H} {w : World} {fuel : Nat} {cs : List Value} {x : DataW H × List MemPlace}, DataW.trod en P w 0 (fun _ => true) true fuel t cs = some x →
  ∃ a, φ a ∧ (enc a).length = cs.length ∧ ∀ (j : Nat) d, (enc a)[j]? = some d → d.one = true ∧ RD w (Old w) d (cs.getD j undef)
theorem Rdg.int {P : Program} {t : TypeId} {k : IntKind} (ht : P.underlying t = some (.int k)) : Rdg P t (fun n : Int => [.int k n]) (fun n => k.min ≤ n ∧ n ≤ k.max) := ⟨by
 intro H en w fuel cs x h
 obtain ⟨n, rfl, _, hw⟩ := DataW.trod_int ht h
 simp only [Lit.wf, Bool.and_eq_true, decide_eq_true_eq] at hw
 refine ⟨n, hw, rfl, fun j d hj => ?_⟩
 cases j with
 | zero => simp at hj; subst hj; exact ⟨rfl, .int k n⟩
 | succ j => simp at hj⟩
theorem Rdg.bool {P : Program} {t : TypeId} (ht : P.underlying t = some .bool) : Rdg P t (fun b : Bool => [.bool b]) (fun _ => True) := ⟨by
 intro H en w fuel cs x h
 obtain ⟨b, rfl, _⟩ := DataW.trod_bool ht h
 refine ⟨b, trivial, rfl, fun j d hj => ?_⟩
 cases j with
 | zero => simp at hj; subst hj; exact ⟨rfl, .bool b⟩
 | succ j => simp at hj⟩
theorem Rdg.string {P : Program} {t : TypeId} (ht : P.underlying t = some .string) : Rdg P t (fun s : ByteArray => [.str s]) (fun s => s.size ≤ 9223372036854775807) := ⟨by
 intro H en w fuel cs x h
 obtain ⟨s, rfl, _, hs⟩ := DataW.trod_string ht h
 refine ⟨s, hs, rfl, fun j d hj => ?_⟩
 cases j with
 | zero => simp at hj; subst hj; exact ⟨rfl, .str s⟩
 | succ j => simp at hj⟩
theorem cell_old {w : World} {a : Addr} {v : Value} (h : w.cell? a = some v) : a.block < w.heap.size := by
 unfold World.cell? at h
 cases hb : w.heap[a.block]? with
 | none => simp [hb] at h
 | some o => exact (Array.getElem?_eq_some_iff.1 hb).1
theorem Rdg.slice {P : Program} {t e : TypeId} {sz : Nat} {α : Type} {enc : α → List D} {φ : α → Prop} (ht : P.underlying t = some (.slice e)) (hc : P.cellsOf e = sz) (h : Rdg P e enc φ) :
  Rdg P t (fun xs : List α => [.slice sz (xs.map enc)]) (fun xs => (∀ x ∈ xs, φ x) ∧ xs.length ≤ 9223372036854775807) := ⟨by
 intro H en w fuel cs x hx
 have one : ∀ {d : D} {v : Value} {j : Nat} {d' : D}, ([d] : List D)[j]? = some d' → d.one = true → RD w (Old w) d v → d'.one = true ∧ RD w (Old w) d' (([v] : List Value).getD j undef) := fun {d v j d'} hj h1 h2 => by
  cases j with
  | zero => simp at hj; subst hj; exact ⟨h1, h2⟩
  | succ j => simp at hj
 rcases DataW.trod_slice ht hx with ⟨rfl, _⟩ | ⟨a, len, cap, elems, rest, n, _, rfl, _, hb, hl, hm, hlen, hel, _, _⟩
 ·refine ⟨[], ⟨by simp, by simp⟩, rfl, fun j d hj => one hj rfl (nils_slice sz .nils)⟩
 ·have each : ∀ i : Fin len, ∃ (y : α) (ci : List Value), w.cells? 0 (a.add (i.1 * sz)) sz = some ci ∧ φ y ∧ (enc y).length = ci.length ∧ ∀ (j : Nat) d, (enc y)[j]? = some d → d.one = true ∧ RD w (Old w) d (ci.getD j undef) := fun i => by
   have h1 := hel i.1 i.2
   rw [hc] at h1
   rw [List.getElem?_eq_getElem (by omega)] at h1
   obtain ⟨ci, h2, h3⟩ := Option.bind_eq_some_iff.1 h1
   obtain ⟨y, k1, k2, k3⟩ := h.read h3
   exact ⟨y, ci, h2, k1, k2, k3⟩
  let ys : Fin len → α := fun i => Classical.choose (each i)
  let cis : Fin len → List Value := fun i => Classical.choose (Classical.choose_spec (each i))
  have sp : ∀ i, w.cells? 0 (a.add (i.1 * sz)) sz = some (cis i) ∧ φ (ys i) ∧ (enc (ys i)).length = (cis i).length ∧ ∀ (j : Nat) d, (enc (ys i))[j]? = some d → d.one = true ∧ RD w (Old w) d ((cis i).getD j undef) := fun i => Classical.choose_spec (Classical.choose_spec (each i))
  have hxl : (List.ofFn ys).length = len := by simp
  have get : ∀ {i : Nat} {x : List D}, ((List.ofFn ys).map enc)[i]? = some x → ∃ hi : i < len, x = enc (ys ⟨i, hi⟩) := fun {i x} hi => by
   rw [List.getElem?_map] at hi
   cases hy : (List.ofFn ys)[i]? with
   | none => simp [hy] at hi
   | some y =>
    simp [hy] at hi
    obtain ⟨h1, h2⟩ := List.getElem?_eq_some_iff.1 hy
    refine ⟨by simpa using h1, ?_⟩
    rw [← hi, ← h2]
    simp
  refine ⟨List.ofFn ys, ⟨fun x hx => ?_, by simp; unfold maxLen at hm; omega⟩, rfl, fun j d hj => one hj rfl ?_⟩
  ·obtain ⟨i, rfl⟩ := List.mem_ofFn.1 hx
   exact (sp i).2.1
  ·let f : Nat → Nat → Value := fun i j => if hi : i < len then (cis ⟨i, hi⟩).getD j undef else undef
   have hs := RD.slice (w := w) (F := Old w) sz ((List.ofFn ys).map enc) (some a) cap f (by simp; exact hl) (fun _ => rfl)
    (fun x hx => by
     obtain ⟨i, hi⟩ := List.mem_iff_getElem?.1 hx
     obtain ⟨hlt, rfl⟩ := get hi
     rw [(sp _).2.2.1, (World.cells?_some (sp _).1).2.1])
    (fun i x j d hi hj => by
     obtain ⟨hlt, rfl⟩ := get hi
     obtain ⟨k1, k2⟩ := (sp ⟨i, hlt⟩).2.2.2 j d hj
     have hjl := (List.getElem?_eq_some_iff.1 hj).1
     obtain ⟨_, c1, c2⟩ := World.cells?_some (sp ⟨i, hlt⟩).1
     have hjs : j < sz := by rw [← c1, ← (sp ⟨i, hlt⟩).2.2.1]; exact hjl
     have hcell := c2 j hjs
     have hg : (cis ⟨i, hlt⟩)[j]? = some ((cis ⟨i, hlt⟩).getD j undef) := by
      rw [List.getD_eq_getElem?_getD, List.getElem?_eq_getElem (by rw [c1]; exact hjs)]; rfl
     rw [hg] at hcell
     simp only [f, dif_pos hlt]
     refine ⟨by rw [k2.one_iff]; exact k1, a, rfl, ?_, ?_⟩
     ·have := cell_old hcell
      rwa [add_block, add_block] at this
     ·rw [← Addr.add_add]; exact hcell)
    (fun i x j d hi hj => by
     obtain ⟨hlt, rfl⟩ := get hi
     simp only [f, dif_pos hlt]
     exact ((sp ⟨i, hlt⟩).2.2.2 j d hj).2)
   simpa using hs⟩
theorem one_slice {P : Program} {w : World} {r : Reach} {b : Nat} {t e : TypeId} {v : Value} (ht : P.underlying t = some (.slice e)) (h : Value.okWide P w r b t v) : v.oneCell' = true := by
 cases v <;> first | rfl | simp [Value.okWide, ht, Cell.okWide, Cell.ok] at h
theorem one_int {P : Program} {w : World} {r : Reach} {b : Nat} {t : TypeId} {k : IntKind} {v : Value} (ht : P.underlying t = some (.int k)) (h : Value.okWide P w r b t v) : v.oneCell' = true := by
 cases v <;> first | rfl | simp [Value.okWide, ht, Cell.okWide, Cell.ok] at h
theorem Rdg.arg {P : Program} {t : TypeId} {α : Type} {f : α → D} {φ : α → Prop} (h : Rdg P t (fun a => [f a]) φ) {H : Type} {en : TypeId × Value → H} {w : World} {v : Value} {d : DataW H} {ps : List MemPlace}
  (h1 : v.oneCell' = true) (hd : DataW.Trod en P w 0 (fun _ => true) true t v d ps) : ∃ a, φ a ∧ RD w (Old w) (f a) v := by
 obtain ⟨fuel, hf⟩ := hd
 obtain ⟨a, k1, k2, k3⟩ := h.read hf
 have e : v.cells = #[v] := by cases v <;> first | rfl | simp [Value.oneCell'] at h1
 rw [e] at k3
 exact ⟨a, k1, by simpa using (k3 0 (f a) rfl).2⟩
theorem trodAll_below {H : Type} {enc : TypeId × Value → H} {P : Program} (hl : laidOutB P = true) {W W' : World} (hb : Below W.heap.size W W') : ∀ {ts : List TypeId} {vs : List Value} {ds : List (DataW H)} {ps : List MemPlace},
  ts.all (fun t => P.readableRec t && decide (t < P.types.size)) = true → DataW.TrodAll enc P W 0 (fun _ => true) true ts vs ds ps → DataW.TrodAll enc P W' 0 (fun b => decide (b < W.heap.size)) true ts vs ds ps
 | [], [], [], ps, _, h => h
 | t :: ts, v :: vs, d :: ds, ps, hr, h => by
  obtain ⟨p, q, h1, h2, rfl⟩ := h
  simp only [List.all_cons, Bool.and_eq_true, decide_eq_true_eq] at hr
  have hlt : ∀ x ∈ p ++ q, x.block < W.heap.size := DataW.TrodAll.lt (ts := t :: ts) (vs := v :: vs) (ds := d :: ds) ⟨p, q, h1, h2, rfl⟩
  exact ⟨p, q, Below.trod hl hr.1.1 hr.1.2 h1 hb (fun x hx => hlt x (by simp [hx])), trodAll_below hl hb (by simpa using hr.2) h2, rfl⟩
 | [], _ :: _, _, _, _, h => by simp [DataW.TrodAll] at h
 | [], [], _ :: _, _, _, h => by simp [DataW.TrodAll] at h
 | _ :: _, [], _, _, _, h => by simp [DataW.TrodAll] at h
 | _ :: _, _ :: _, [], _, _, h => by simp [DataW.TrodAll] at h
theorem kept_below {W W' : World} (hb : Below W.heap.size W W') (may : MemPlace → Prop) : W.keptBut W' may := by
 refine ⟨hb.os, hb.output, fun i hi => ?_⟩
 rw [hb.block i hi]
 cases h : W.heap[i]? with
 | none => rfl
 | some o => cases o <;> first | exact ⟨rfl, rfl, rfl, fun _ _ => rfl⟩ | exact .inr ⟨rfl, rfl⟩ | rfl
theorem post_true {H : Type} {enc : TypeId × Value → H} {P : Program} {fn : Func} {s : ChangeSpec} {W W' : World} {args : Array Value} {ds gs : List (DataW H)} {before : List MemPlace} {tb : TypeId}
  (hl : laidOutB P = true) (hr : fn.params.toList.all (fun t => P.readableRec t && decide (t < P.types.size)) = true) (hres : fn.resultTypes = #[tb]) (htb : P.underlying tb = some .bool) (hv : s.vars = [])
  (hW : DataW.Whole enc P fn.params.toList s.vars false W args.toList ds gs before) (hfn : s.fn H (ds ++ gs) = { results := [.lit (.bool true)], args := ds }) (hb : Below W.heap.size W W') :
  s.post enc P fn false true false false W args (.bool true) W' := by
 have hW' := hW
 obtain ⟨p, q, hA, hV, rfl, hfz, hnd⟩ := hW
 rw [hv] at hV
 obtain ⟨rfl, rfl⟩ := trodVars_none hV
 refine ⟨ds, [], p ++ [], [], p, [], hW', ?_, ?_, ?_, kept_below hb _, fun h => by cases h⟩
 ·rw [hfn, hres]
  exact trodAll_mk1 (shut_bool htb true)
 ·rw [hfn]
  exact trodAll_below hl hb hr hA
 ·rw [hfn, hv]
  rfl
end Go.Abs
end
section
set_option autoImplicit false
set_option linter.unusedVariables false
set_option linter.unusedSimpArgs false
namespace Go.Abs
open Go.ChangeShapes Go.WideShapes Go.ChangeAt Go.RowKit
structure RdgL (P : Program) (N off : Nat) (fs : List Field) {α : Type} (enc : α → List D) (φ : α → Prop) : Prop where
 read : ∀ {H : Type} {en : TypeId × Value → H} {w : World} {n : Nat} {cs : List Value}, cs.length = N →
  (∀ f ∈ fs, ∃ y, DataW.trod en P w 0 (fun _ => true) true n f.type ((cs.drop f.offset).take (P.cellsOf f.type)) = some y) →
  ∃ a, φ a ∧ (enc a).length = (cs.drop off).length ∧ ∀ (j : Nat) d, (enc a)[j]? = some d → d.one = true ∧ RD w (Old w) d ((cs.drop off).getD j undef)
theorem RdgL.nil {P : Program} {N : Nat} : RdgL P N N [] (fun _ : Unit => []) (fun _ => True) := ⟨by
 intro H en w n cs hl _
 exact ⟨(), trivial, by simp [hl], fun j d hj => by simp at hj⟩⟩
theorem RdgL.cons {P : Program} {N off k : Nat} {f : Field} {fs : List Field} {α β : Type} {e0 : α → List D} {e1 : β → List D} {φ : α → Prop} {ψ : β → Prop} (ho : f.offset = off) (hc : P.cellsOf f.type = k) (hN : off + k ≤ N)
  (h : Rdg P f.type e0 φ) (h1 : RdgL P N (off + k) fs e1 ψ) : RdgL P N off (f :: fs) (fun p : α × β => e0 p.1 ++ e1 p.2) (fun p => φ p.1 ∧ ψ p.2) := ⟨by
 intro H en w n cs hl hf
 obtain ⟨y, hy⟩ := hf f (by simp)
 rw [ho, hc] at hy
 obtain ⟨a, k1, k2, k3⟩ := h.read hy
 obtain ⟨b, m1, m2, m3⟩ := h1.read hl (fun g hg => hf g (by simp [hg]))
 have la : (e0 a).length = k := by rw [k2]; simp; omega
 refine ⟨(a, b), ⟨k1, m1⟩, by simp only [List.length_append, la, m2, List.length_drop]; omega, fun j d hj => ?_⟩
 by_cases hjk : j < k
 ·rw [List.getElem?_append_left (show j < (e0 a).length by rw [la]; exact hjk)] at hj
  obtain ⟨q1, q2⟩ := k3 j d hj
  refine ⟨q1, ?_⟩
  have e : (cs.drop off).getD j undef = ((cs.drop off).take k).getD j undef := by
   simp [List.getD_eq_getElem?_getD, List.getElem?_take, hjk]
  rw [e]; exact q2
 ·rw [List.getElem?_append_right (show (e0 a).length ≤ j by rw [la]; omega), la] at hj
  obtain ⟨q1, q2⟩ := m3 (j - k) d hj
  refine ⟨q1, ?_⟩
  have e : (cs.drop off).getD j undef = (cs.drop (off + k)).getD (j - k) undef := by
   simp only [List.getD_eq_getElem?_getD, List.getElem?_drop]
   rw [show off + k + (j - k) = off + j by omega]
  rw [e]; exact q2⟩
theorem Rdg.struct {P : Program} {t : TypeId} {fs : Array Field} {N : Nat} {α : Type} {enc : α → List D} {φ : α → Prop} (ht : P.underlying t = some (.struct fs)) (hN : P.cellsOf t = N) (h : RdgL P N 0 fs.toList enc φ) : Rdg P t enc φ := ⟨by
 intro H en w fuel cs x hx
 obtain ⟨xs, n, _, rfl, hl, hlen, hf⟩ := DataW.trod_struct ht hx
 obtain ⟨a, k1, k2, k3⟩ := h.read (w := w) (n := n) (en := en) (cs := cs) (by rw [hl, hN]) (fun f hm => by
  obtain ⟨i, hi⟩ := List.mem_iff_getElem?.1 hm
  have hfi : fs[i]? = some f := by simpa using hi
  have := hf i f hfi
  have hix : i < xs.length := by rw [hlen]; exact (Array.getElem?_eq_some_iff.1 hfi).1
  exact ⟨xs[i], by rw [this, List.getElem?_eq_getElem hix]⟩)
 exact ⟨a, k1, by simpa using k2, fun j d hj => by simpa using k3 j d hj⟩⟩
theorem Rdg.map {P : Program} {t : TypeId} {α β : Type} {e0 : α → List D} {φ : α → Prop} {e1 : β → List D} {ψ : β → Prop} (g : α → β) (h : Rdg P t e0 φ) (he : ∀ a, e1 (g a) = e0 a) (hp : ∀ a, φ a → ψ (g a)) : Rdg P t e1 ψ := ⟨by
 intro H en w fuel cs x hx
 obtain ⟨a, k1, k2, k3⟩ := h.read hx
 exact ⟨g a, hp a k1, by rw [he]; exact k2, fun j d hj => k3 j d (by rw [← he]; exact hj)⟩⟩
theorem Rdg.argS {P : Program} {t : TypeId} {α : Type} {f : α → List D} {φ : α → Prop} (h : Rdg P t f φ) {H : Type} {en : TypeId × Value → H} {w : World} {v : Value} {d : DataW H} {ps : List MemPlace} {n : Nat}
  (h1 : ∃ cs, v = .agg cs ∧ cs.size = n) (hd : DataW.Trod en P w 0 (fun _ => true) true t v d ps) : ∃ a, φ a ∧ RD w (Old w) (.agg (f a)) v := by
 obtain ⟨cs, rfl, _⟩ := h1
 obtain ⟨fuel, hf⟩ := hd
 obtain ⟨a, k1, k2, k3⟩ := h.read hf
 have k3' : ∀ (j : Nat) d, (f a)[j]? = some d → d.one = true ∧ RD w (Old w) d (cs.getD j undef) := fun j d hj => by
  have := k3 j d hj
  have hlt := (List.getElem?_eq_some_iff.1 hj).1
  rw [k2] at hlt
  have hs : j < cs.size := by simpa [Value.cells] using hlt
  simpa [Value.cells, List.getD_eq_getElem?_getD, hs, Array.getD_eq_getD_getElem?] using this
 refine ⟨a, k1, .agg _ cs (by simpa [Value.cells] using k2.symm) (fun j hj => ?_) (fun j d hj => (k3' j d hj).2)⟩
 have hj' : j < (f a).length := by rw [k2]; simpa [Value.cells] using hj
 obtain ⟨q1, q2⟩ := k3' j _ (List.getElem?_eq_getElem hj')
 rw [q2.one_iff]; exact q1
end Go.Abs
end
section
set_option autoImplicit false
set_option linter.unusedVariables false
set_option linter.unusedSimpArgs false
namespace Go.Abs
inductive SK where
 | int (k : IntKind)
 | bool
 | str
def SK.fits : SK → D → Bool
 | .int k, .int k' _ => k' == k
 | .bool, .bool _ => true
 | .str, .str _ => true
 | _, _ => false
def fitL : List SK → List D → Bool
 | [], [] => true
 | k :: ks, d :: ds => k.fits d && fitL ks ds
 | _, _ => false
def isAggK (ks : List SK) : D → Bool
 | .agg cs => fitL ks cs
 | _ => false
def SK.desc (P : Program) (t : TypeId) : SK → Prop
 | .int k => P.underlying t = some (.int k)
 | .bool => P.underlying t = some .bool
 | .str => P.underlying t = some .string
def FlatF (P : Program) : List Field → List SK → Nat → Prop
 | [], [], _ => True
 | f :: fs, k :: ks, n => f.name ≠ "_" ∧ f.offset = n ∧ k.desc P f.type ∧ FlatF P fs ks (n + 1)
 | _, _, _ => False
theorem fitL_len : ∀ {ks : List SK} {ds : List D}, fitL ks ds = true → ds.length = ks.length
 | [], [], _ => rfl
 | k :: ks, d :: ds, h => by
  simp only [fitL, Bool.and_eq_true] at h
  simp [fitL_len h.2]
 | [], _ :: _, h => by simp [fitL] at h
 | _ :: _, [], h => by simp [fitL] at h
theorem skeq_run {P : Program} {w : World} {F : Nat → Prop} {t : TypeId} {k : SK} {a b : D} {u v : Value} (hk : k.desc P t) (ha : k.fits a = true) (hb : k.fits b = true) (hu : RD w F a u) (hv : RD w F b v) (d : Nat) (w' : World) :
  (Op.equalIn (d + 1) t u v).run P w' = .ok (skeq a b) w' ∧ P.plainKey t = true := by
 cases k with
 | int k =>
  cases hu <;> simp [SK.fits] at ha
  cases hv <;> simp [SK.fits] at hb
  subst ha hb
  simp only [SK.desc] at hk
  exact ⟨by simp [Op.equalIn, run_underlying hk, skeq], by simp [Program.plainKey, hk]⟩
 | bool =>
  cases hu <;> simp [SK.fits] at ha
  cases hv <;> simp [SK.fits] at hb
  simp only [SK.desc] at hk
  exact ⟨by simp [Op.equalIn, run_underlying hk, skeq], by simp [Program.plainKey, hk]⟩
 | str =>
  cases hu <;> simp [SK.fits] at ha
  cases hv <;> simp [SK.fits] at hb
  simp only [SK.desc] at hk
  exact ⟨by simp [Op.equalIn, run_underlying hk, skeq], by simp [Program.plainKey, hk]⟩
theorem eqFields_flat {P : Program} {w : World} {F : Nat → Prop} (d : Nat) (xs ys : Array Value) (w' : World) : ∀ (fs : List Field) (ks : List SK) (n : Nat) (as bs : List D), FlatF P fs ks n → fitL ks as = true → fitL ks bs = true →
  (∀ (j : Nat) a, as[j]? = some a → n + j < xs.size ∧ RD w F a (xs.getD (n + j) undef)) → (∀ (j : Nat) a, bs[j]? = some a → n + j < ys.size ∧ RD w F a (ys.getD (n + j) undef)) →
  (Op.eqFields (d + 1) xs ys fs).run P w' = .ok (skeqL as bs) w'
 | [], [], n, [], [], _, _, _, _, _ => by simp [Op.eqFields, skeqL]
 | f :: fs, k :: ks, n, a :: as, b :: bs, hF, ha, hb, hx, hy => by
  obtain ⟨h1, h2, h3, h4⟩ := hF
  simp only [fitL, Bool.and_eq_true] at ha hb
  obtain ⟨x1, x2⟩ := hx 0 a rfl
  obtain ⟨y1, y2⟩ := hy 0 b rfl
  obtain ⟨e1, e2⟩ := skeq_run h3 ha.1 hb.1 x2 y2 d w'
  have px : (part f.type xs f.offset).run P w' = .ok (xs.getD (n + 0) undef) w' := run_part_plain w' e2 (by rw [h2]; simp only [Nat.add_zero] at x1 ⊢; simp [x1])
  have py : (part f.type ys f.offset).run P w' = .ok (ys.getD (n + 0) undef) w' := run_part_plain w' e2 (by rw [h2]; simp only [Nat.add_zero] at y1 ⊢; simp [y1])
  have ih := eqFields_flat (w := w) (F := F) d xs ys w' fs ks (n + 1) as bs h4 ha.2 hb.2 (fun j a hj => by rw [show n + 1 + j = n + (j + 1) by omega]; exact hx (j + 1) a hj) (fun j a hj => by rw [show n + 1 + j = n + (j + 1) by omega]; exact hy (j + 1) a hj)
  simp only [Op.eqFields, h1, ne_eq, not_false_eq_true, if_true, Sem.run_bind, px, py, Result.andThen_ok, e1, skeqL]
  cases skeq a b
  ·simp
  ·simpa using ih
 | [], _ :: _, _, _, _, h, _, _, _, _ => h.elim
 | _ :: _, [], _, _, _, h, _, _, _, _ => h.elim
 | _ :: _, _ :: _, _, [], _, _, h, _, _, _ => by simp [fitL] at h
 | _ :: _, _ :: _, _, _ :: _, [], _, _, h, _, _ => by simp [fitL] at h
 | [], [], _, _ :: _, _, _, h, _, _, _ => by simp [fitL] at h
 | [], [], _, [], _ :: _, _, _, h, _, _ => by simp [fitL] at h
theorem cmpLaw_of {P : Program} {t : TypeId} {fs : Array Field} {ks : List SK} (hu : P.underlying t = some (.struct fs)) (hs : P.stoodInHeld t = false) (hg : P.eqGuardType P.depth t = false) (hf : FlatF P fs.toList ks 0) : CmpLaw P t (isAggK ks) where
 eq w F a b u v ha hb hu' hv := by
  cases hu' <;> simp [isAggK] at ha
  cases hv <;> simp [isAggK] at hb
  rename_i as xs x1 x2 x3 bs ys y1 y2 y3
  have hfs : P.fieldsOf t = fs := by simp [Program.fieldsOf, hu]
  have e := run_equalIn_struct (P := P) w 9999 t xs ys (by rw [hfs]; exact hu) hs
  rw [hfs, eqFields_flat (w := w) (F := F) 9998 xs ys w fs.toList ks 0 as bs hf ha hb
   (fun j a hj => by rw [Nat.zero_add]; exact ⟨by rw [x1]; exact (List.getElem?_eq_some_iff.1 hj).1, x3 j a hj⟩)
   (fun j a hj => by rw [Nat.zero_add]; exact ⟨by rw [y1]; exact (List.getElem?_eq_some_iff.1 hj).1, y3 j a hj⟩)] at e
  simpa [Op.equal, Op.maxDepth, dkeq] using e
 grd op x y w F a b u v ha hb hu' hv := by
  cases hu' <;> simp [isAggK] at ha
  cases hv <;> simp [isAggK] at hb
  exact run_eqGuard_agg w op t x y _ _ hg
 bin op w F a b u v ha hb hu' hv ho := by
  cases hu' <;> simp [isAggK] at ha
  cases hv <;> simp [isAggK] at hb
  rcases ho with rfl | rfl <;> simp [binOp]
end Go.Abs
end
section
set_option autoImplicit false
set_option linter.unusedVariables false
set_option linter.unusedSimpArgs false
namespace Go.Abs
theorem SK.isKey {P : Program} {t : TypeId} {k : SK} {w : World} {F : Nat → Prop} {a : D} {v : Value} (hk : k.desc P t) (ha : k.fits a = true) (hv : RD w F a v) :
  ∃ d, P.underlying t = some d ∧ MapKept.IsKey d v ∧ P.plainKey t = true := by
 cases k with
 | int k =>
  cases hv <;> simp [SK.fits] at ha
  subst ha
  simp only [SK.desc] at hk
  exact ⟨_, hk, rfl, by simp [Program.plainKey, hk]⟩
 | bool =>
  cases hv <;> simp [SK.fits] at ha
  simp only [SK.desc] at hk
  exact ⟨_, hk, trivial, by simp [Program.plainKey, hk]⟩
 | str =>
  cases hv <;> simp [SK.fits] at ha
  simp only [SK.desc] at hk
  exact ⟨_, hk, trivial, by simp [Program.plainKey, hk]⟩
theorem chkFields {P : Program} {w : World} {F : Nat → Prop} (e : Bool) (m : Nat) (xs : Array Value) : ∀ (fs : List Field) (ks : List SK) (n : Nat) (as : List D), FlatF P fs ks n → fitL ks as = true →
  (∀ (j : Nat) a, as[j]? = some a → n + j < xs.size ∧ RD w F a (xs.getD (n + j) undef)) →
  (forIn (m := Sem) fs PUnit.unit (fun f _ => do
   if f.name ≠ "_" then Instr.checkKey e (m + 1) f.type (← part f.type xs f.offset)
   pure (ForInStep.yield PUnit.unit))).run P w = .ok PUnit.unit w
 | [], [], n, [], _, _, _ => by simp
 | f :: fs, k :: ks, n, a :: as, hF, ha, hx => by
  obtain ⟨h1, h2, h3, h4⟩ := hF
  simp only [fitL, Bool.and_eq_true] at ha
  obtain ⟨x1, x2⟩ := hx 0 a rfl
  obtain ⟨d, e1, e2, e3⟩ := SK.isKey h3 ha.1 x2
  have px : (part f.type xs f.offset).run P w = .ok (xs.getD (n + 0) undef) w := run_part_plain w e3 (by rw [h2]; simp only [Nat.add_zero] at x1 ⊢; simp [x1])
  have ih := chkFields (w := w) (F := F) e m xs fs ks (n + 1) as h4 ha.2 (fun j a hj => by rw [show n + 1 + j = n + (j + 1) by omega]; exact hx (j + 1) a hj)
  simp only [List.forIn_cons, Sem.run_bind, h1, ne_eq, not_false_eq_true, if_true, px, Result.andThen_ok, MapKept.run_checkKey e1 e2 e m, Sem.run_pure]
  simpa using ih
 | [], _ :: _, _, _, h, _, _ => h.elim
 | _ :: _, [], _, _, h, _, _ => h.elim
 | _ :: _, _ :: _, _, [], _, h, _ => by simp [fitL] at h
 | [], [], _, _ :: _, _, h, _ => by simp [fitL] at h
theorem sameBits_of {w : World} {F : Nat → Prop} {k : SK} {a b : D} {x y : Value} (ha : k.fits a = true) (hb : k.fits b = true) (hx : RD w F a x) (hy : RD w F b y) (h : skeq b a = true) (n : Nat) : Instr.sameBits n x y = true := by
 cases k with
 | int k =>
  cases hx <;> simp [SK.fits] at ha
  cases hy <;> simp [SK.fits] at hb
  subst ha hb
  simp [skeq] at h
  simp [Instr.sameBits, h]
 | bool =>
  cases hx <;> simp [SK.fits] at ha
  cases hy <;> simp [SK.fits] at hb
  simp [skeq] at h
  simp [Instr.sameBits, h]
 | str =>
  cases hx <;> simp [SK.fits] at ha
  cases hy <;> simp [SK.fits] at hb
  simp only [skeq, MapKept.bytes_beq] at h
  simp [Instr.sameBits, MapKept.bytes_beq, h]
theorem sameBitsL {w : World} {F : Nat → Prop} (n : Nat) : ∀ (ks : List SK) (as bs : List D) (xs ys : List Value), fitL ks as = true → fitL ks bs = true → xs.length = as.length → ys.length = bs.length →
  (∀ (j : Nat) a, as[j]? = some a → RD w F a (xs.getD j undef)) → (∀ (j : Nat) a, bs[j]? = some a → RD w F a (ys.getD j undef)) → skeqL bs as = true →
  ((xs.zip ys).all fun (x, y) => Instr.sameBits n x y) = true
 | [], as, bs, [], _, _, _, _, _, _, _, _ => rfl
 | k :: ks, a :: as, b :: bs, x :: xs, y :: ys, ha, hb, hl, hm, hx, hy, h => by
  simp only [fitL, Bool.and_eq_true] at ha hb
  simp only [skeqL, Bool.and_eq_true] at h
  have ih := sameBitsL n ks as bs xs ys ha.2 hb.2 (by simpa using hl) (by simpa using hm) (fun j a hj => hx (j + 1) a hj) (fun j a hj => hy (j + 1) a hj) h.2
  have e := sameBits_of ha.1 hb.1 (hx 0 a rfl) (hy 0 b rfl) h.1 n
  simp only [List.getD_cons_zero] at e
  simp only [List.zip_cons_cons, List.all_cons, e, Bool.true_and]
  exact ih
 | [], [], _, _ :: _, _, _, _, h, _, _, _, _ => by simp at h
 | [], _ :: _, _, _, _, h, _, _, _, _, _, _ => by simp [fitL] at h
 | _ :: _, [], _, _, _, h, _, _, _, _, _, _ => by simp [fitL] at h
 | _ :: _, _ :: _, [], _, _, _, h, _, _, _, _, _ => by simp [fitL] at h
 | _ :: _, _ :: _, _ :: _, [], _, _, _, h, _, _, _, _ => by simp at h
 | _ :: _, _ :: _, _ :: _, _ :: _, [], _, _, _, h, _, _, _ => by simp at h
theorem findAsking_of {P : Program} {w : World} {F : Nat → Prop} {t : TypeId} {g : D → Bool} (hc : CmpLaw P t g) {k : D} {v : Value} (hk : g k = true) (hv : RD w F k v) : ∀ (es : List MapEntry) (ks : List D) (n : Nat), ks.length = es.length →
  (∀ (i : Nat) d, ks[i]? = some d → g d = true ∧ ∃ e, es[i]? = some e ∧ RD w F d e.key) →
  (Instr.findAsking t v es n).run P w = .ok ((ks.findIdx? (dkeq k)).map fun i => (i + n, (es.getD i default).val)) w
 | [], [], n, _, _ => by simp [Instr.findAsking]
 | [], _ :: _, _, h, _ => by simp at h
 | _ :: _, [], _, h, _ => by simp at h
 | e :: es, d :: ks, n, hl, hks => by
  obtain ⟨h1, e', h2, h3⟩ := hks 0 d rfl
  simp at h2
  subst h2
  have he := hc.eq w F k d v e.key hk h1 hv h3
  have ih := findAsking_of hc hk hv es ks (n + 1) (by simpa using hl) (fun i d hi => by simpa using hks (i + 1) d (by simpa using hi))
  cases hd : dkeq k d with
  | true => simp [Instr.findAsking, he, hd, List.findIdx?_cons]
  | false =>
   simp only [Instr.findAsking, Sem.run_bind, he, hd, Result.andThen_ok, Bool.false_eq_true, if_false, ih, List.findIdx?_cons]
   cases ks.findIdx? (dkeq k) <;> simp; omega
theorem structKey {P : Program} {t : TypeId} {fs : Array Field} {ks : List SK} (hu : P.underlying t = some (.struct fs)) (hs : P.stoodInHeld t = false) (hg : P.eqGuardType P.depth t = false) (hf : FlatF P fs.toList ks 0) : KeyLaw P t (isAggK ks) where
 chk w F k v e hk hv := by
  cases hv <;> simp [isAggK] at hk
  rename_i as xs x1 x2 x3
  rw [show (10000 : Nat) = 9999 + 1 from rfl, Instr.checkKey]
  simp only [Sem.run_bind, run_underlying hu, Result.andThen_ok]
  rw [← Array.forIn_toList]
  have := chkFields (w := w) (F := F) e 9998 xs fs.toList ks 0 as hf hk (fun j a hj => by rw [Nat.zero_add]; exact ⟨by rw [x1]; exact (List.getElem?_eq_some_iff.1 hj).1, x3 j a hj⟩)
  have e2 := congrArg (fun r => r.andThen fun (a : PUnit) w' => Result.ok () w') this
  simpa using e2
 find w F k v ds es hk hv hl hks := by
  have hc := cmpLaw_of hu hs hg hf
  have hfa := findAsking_of hc hk hv es ds 0 hl hks
  cases es with
  | nil =>
   cases ds with
   | nil => exact MapKept.run_findKey hu (by simp [Instr.findNow])
   | cons _ _ => simp at hl
  | cons e es =>
   have hn : Instr.findNow (.struct fs) v (e :: es) 0 = none := by simp [Instr.findNow, Instr.sameNow]
   simp only [Instr.findKey, Sem.run_bind, run_underlying hu, Result.andThen_ok, hn]
   simpa using hfa
 stay w F k d v u hk hd hkd hv hu' := by
  cases hv <;> simp [isAggK] at hk
  cases hu' <;> simp [isAggK] at hd
  rename_i bs ys y1 y2 y3 as xs x1 x2 x3
  have := sameBitsL (w := w) (F := F) 9999 ks as bs xs.toList ys.toList hd hk (by simpa using x1) (by simpa using y1) (fun j a hj => by simpa using x3 j a hj) (fun j a hj => by simpa using y3 j a hj) (by simpa [dkeq] using hkd)
  have hsz : xs.size = ys.size := by rw [x1, y1, fitL_len hd, fitL_len hk]
  simp only [Instr.keyThatStays, Instr.sameBits, hsz, beq_self_eq_true, Bool.true_and, this, if_true, Sem.run_pure]
end Go.Abs
end
section
set_option autoImplicit false
set_option linter.unusedVariables false
set_option linter.unusedSimpArgs false
namespace Go.Abs
section
variable {E : Env} {n0 : Nat} {H H' H0 H1 : List AObj} {t t' : List AV} {ds ds' : List Nat}
theorem Wk.tellD (σ : List Nat) (hs : Sb σ H H') (ht : tellL (rn σ H.length) σ.length t' t) (hd : ds'.map (rn σ H.length) = ds) (hdl : ∀ d ∈ ds', d < σ.length) (hn0 : ∀ id, id < n0 → σ[id]? = some id) :
  Wk E n0 t H ds t' H' ds' := fun w F Γ tm df hS hT hD hn => by
 obtain ⟨F1, Γ1, k1, k2, k3, k4⟩ := Wk.tell (E := E) (n0 := n0) σ hs ht hn0 w F Γ tm [] hS hT ⟨rfl, fun i id hi => by simp at hi⟩ hn
 have hin : ∀ i ∈ σ, i < Γ.length := fun i hi => by rw [hS.len]; exact hs.inH i hi
 obtain ⟨hS0, hL0⟩ := hS.sub hs
 have hdown : ∀ id s, id < σ.length → Γ[rn σ H.length id]? = some s → (sg σ Γ)[id]? = some s := fun id s hid hg => by
  rw [rn_lt hid] at hg
  exact (sg_get hin).2 ⟨_, List.getElem?_eq_getElem hid, hg⟩
 obtain ⟨h1, h2⟩ := tellL_get ht
 refine ⟨F, sg σ Γ, hS0, ⟨by rw [hT.1, h1], fun j av hj => ?_⟩, ⟨by rw [hD.1, ← hd]; simp, fun i id hi => ?_⟩, ?_⟩
 ·rcases h2 j av hj with rfl | ⟨h3, h4⟩
  ·exact .dead _
  ·exact (hT.2 j _ h3).down hdown (AV.bel_ok _ _ h4)
 ·have hi' : ds[i]? = some (rn σ H.length id) := by rw [← hd, List.getElem?_map, hi]; rfl
  obtain ⟨s, b, q1, q2, q3⟩ := hD.2 i _ hi'
  exact ⟨s, b, hdown _ _ (hdl _ (List.mem_of_getElem? hi)) q1, q2, q3⟩
 ·refine ⟨rfl, rfl, rfl, Nat.le_refl _, fun _ _ _ => rfl, fun _ h => h, fun _ h _ => .inl h, fun b hb _ => hL0 b hb, fun id hid => ?_, ?_⟩
  ·have e := hn0 id hid
   cases hg : Γ[id]? with
   | none =>
    have := hin id (List.mem_of_getElem? e)
    rw [List.getElem?_eq_getElem this] at hg; cases hg
   | some s => exact (sg_get hin).2 ⟨id, e, hg⟩
  ·cases n0 with
   | zero => exact Nat.zero_le _
   | succ n0 =>
    have := (List.getElem?_eq_some_iff.1 (hn0 n0 (by omega))).1
    simp only [sg, List.length_map]; omega
theorem WK.pickD {K : K3} (σ : List Nat) (hs : sbl (rn σ H.length) σ.length H σ H') (hnd : σ.Nodup) (hin : ∀ i ∈ σ, i < H.length)
  (ht : tellL (rn σ H.length) σ.length t' t) (hd : ds'.map (rn σ H.length) = ds) (hdl : ∀ d ∈ ds', d < σ.length) (hn0 : ∀ id, id < n0 → σ[id]? = some id) (k : WK E n0 K t' H' ds') : WK E n0 K t H ds :=
 WK.step (Wk.tellD σ ⟨(sbl_get hs).1, hnd, hin, (sbl_get hs).2⟩ ht hd hdl hn0) k
theorem ACalls.at {g : FuncId} {args0 args : List AV} {v : AV} {K : AV → List AObj → Prop} (σ : List Nat) (h : ACalls E g args0 H0 fun r H' => r = v ∧ H' = H1) (hs : sbl (rn σ H.length) σ.length H σ H0) (hnd : σ.Nodup)
  (hin : ∀ i ∈ σ, i < H.length) (ha : args = args0.map (AV.ren (rn σ H.length))) (hb : AV.belL σ.length args0 = true) (hK : K (v.ren (rn σ H.length)) (lift σ H H1)) : ACalls E g args H K :=
 h.frame σ ⟨(sbl_get hs).1, hnd, hin, (sbl_get hs).2⟩ ha hb fun v0 H0' ⟨h1, h2⟩ => by subst h1 h2; exact hK
theorem ACalls.hushAt {g : FuncId} {args0 args : List AV} {v : AV} {K : AV → Prop} (σ : List Nat) (h : ACalls E g args0 H0 fun r H' => r = v ∧ H' = H1) (hs : sbl (rn σ H.length) σ.length H σ H0) (hnd : σ.Nodup)
  (hin : ∀ i ∈ σ, i < H.length) (ha : args = args0.map (AV.ren (rn σ H.length))) (hb : AV.belL σ.length args0 = true) (hl : lift σ H H1 = H) (hK : K (v.ren (rn σ H.length))) : QC E g args H K :=
 ⟨v.ren (rn σ H.length), h.at σ hs hnd hin ha hb ⟨rfl, hl⟩, hK⟩
theorem WK.nild {K : K3} (j sz : Nat) (ht : t[j]? = some (.d .nils)) (k : WK E n0 K (t.set j (.d (.slice sz []))) H ds) : WK E n0 K t H ds :=
 WK.step (fun w F Γ tm df hS hT hD hn => ⟨F, Γ, hS, ⟨by rw [hT.1]; simp, fun i av hi => by
  rcases set_get hi with ⟨rfl, rfl, _⟩ | ⟨_, hi⟩
  ·exact .d (nils_slice sz (hT.2 _ _ ht).of_d)
  ·exact hT.2 i av hi⟩, hD, Ext.refl hn⟩) k
theorem ACalls.retell {g : FuncId} {args : List AV} {K K' : AV → List AObj → Prop} (h : ACalls E g args H K) (hK : ∀ r H', K r H' → WK E H.length (fun t H _ => ∃ r', t = [r'] ∧ K' r' H) [r] H' []) : ACalls E g args H K' := by
 refine ⟨h.1, fun w F Γ vs hS hV => (h.2 w F Γ vs hS hV).mono ?_⟩
 rintro e w' ⟨v, r, H', F', Γ', rfl, hS', hv, hk, hX⟩
 obtain ⟨t', H'', ds'', hwk, r', rfl, hk'⟩ := hK r H' hk
 have hT : RT w' F' Γ' [r] #[v] := ⟨rfl, fun j av hj => by
  cases j with
  | zero => simp at hj; subst hj; simpa using hv
  | succ j => simp at hj⟩
 obtain ⟨F2, Γ2, k1, k2, k3, k4⟩ := hwk w' F' Γ' #[v] [] hS' hT ⟨rfl, fun i id hi => by simp at hi⟩ hX.nlen
 exact ⟨v, r', H'', F2, Γ2, rfl, k1, by simpa using k2.2 0 r' rfl, hk', hX.trans (Nat.le_refl _) k4⟩
theorem ACalls.here {g : FuncId} {args : List AV} {v : AV} {K : AV → List AObj → Prop} (h : ACalls E g args H fun r H' => r = v ∧ H' = H1) (hK : K v H1) : ACalls E g args H K := h.thus hK
end
/-! ### Maps from whole numbers -/
theorem mapErase {α β : Type} (f : α → β) : ∀ (l : List α) (i : Nat), (l.eraseIdx i).map f = (l.map f).eraseIdx i
 | [], i => by simp
 | a :: l, 0 => by simp
 | a :: l, i + 1 => by simp [mapErase f l i]
def entE {α : Type} (f : α → D) (L : List (Int × α)) : List (D × D) := L.map fun p => (.int .i64 p.1, f p.2)
def lget {α : Type} (L : List (Int × α)) (k : Int) : Option α := (L.find? fun p => k == p.1).map (·.2)
def lput {α : Type} (L : List (Int × α)) (k : Int) (v : α) : List (Int × α) := match L.findIdx? (fun p => k == p.1) with
 | some i => L.set i (k, v)
 | none => L ++ [(k, v)]
def ldel {α : Type} (L : List (Int × α)) (k : Int) : List (Int × α) := match L.findIdx? (fun p => k == p.1) with
 | some i => L.eraseIdx i
 | none => L
section
variable {α : Type} (f : α → D) (L : List (Int × α)) (k : Int) (v : α)
theorem dkeq_int (a b : Int) (k : IntKind) : dkeq (.int k a) (.int k b) = (a == b) := by simp [dkeq, skeq]
theorem entE_length : (entE f L).length = L.length := by simp [entE]
theorem entE_all : (∀ p ∈ entE f L, isIntK .i64 p.1 = true) = True := by
 simp only [eq_iff_iff, iff_true]
 intro p hp
 obtain ⟨q, _, rfl⟩ := List.mem_map.1 hp
 simp [isIntK]
theorem entE_find : (entE f L).findIdx? (fun p => dkeq (.int .i64 k) p.1) = L.findIdx? (fun p => k == p.1) := by
 rw [entE, findIdx_map]
 simp only [dkeq_int]
theorem entE_get : dget (entE f L) (.int .i64 k) = (lget L k).map f := by
 unfold dget lget entE
 rw [List.find?_map]
 have : ((fun p : D × D => dkeq (.int .i64 k) p.1) ∘ fun p : Int × α => (D.int .i64 p.1, f p.2)) = fun p => k == p.1 := by
  funext p
  simp only [Function.comp_apply, dkeq_int]
 rw [this]
 cases L.find? (fun p => k == p.1) <;> rfl
theorem entE_put : dput (entE f L) (.int .i64 k) (f v) = entE f (lput L k v) := by
 unfold dput lput
 rw [entE_find]
 cases L.findIdx? (fun p => k == p.1) with
 | none => simp [entE]
 | some i => simp [entE, List.map_set]
theorem entE_del : ddel (entE f L) (.int .i64 k) = entE f (ldel L k) := by
 unfold ddel ldel
 rw [entE_find]
 cases L.findIdx? (fun p => k == p.1) with
 | none => rfl
 | some i => simp [entE, mapErase]
theorem isIntK_int (n : Int) (k : IntKind) : isIntK k (.int k n) = true := by simp [isIntK]
end
def NoDup {α : Type} (L : List (Int × α)) : Prop := (L.map (·.1)).Nodup
section
variable {α : Type} {L : List (Int × α)} {k : Int} {v : α}
theorem find_some {p : Int × α} (h : L.find? (fun p => k == p.1) = some p) : p.1 = k ∧ p ∈ L := by
 have h1 := List.find?_some h
 exact ⟨(beq_iff_eq.1 h1).symm, List.mem_of_find?_eq_some h⟩
theorem lget_none : lget L k = none ↔ k ∉ L.map (·.1) := by
 unfold lget
 rw [Option.map_eq_none_iff, List.find?_eq_none]
 constructor
 ·intro h hm
  obtain ⟨p, hp, he⟩ := List.mem_map.1 hm
  exact h p hp (by simp [he])
 ·intro h p hp he
  exact h (List.mem_map.2 ⟨p, hp, (beq_iff_eq.1 he).symm⟩)
theorem lget_mem (hn : NoDup L) : lget L k = some v ↔ (k, v) ∈ L := by
 unfold lget
 constructor
 ·intro h
  obtain ⟨p, hp, rfl⟩ := Option.map_eq_some_iff.1 h
  obtain ⟨h1, h2⟩ := find_some hp
  rw [← h1]; exact h2
 ·intro h
  cases hf : L.find? (fun p => k == p.1) with
  | none => exact absurd (by simp) (List.find?_eq_none.1 hf _ h)
  | some p =>
   obtain ⟨h1, h2⟩ := find_some hf
   have : p = (k, v) := by
    unfold NoDup at hn
    have h3 : p.1 = (k, v).1 := h1
    obtain ⟨i, hi⟩ := List.mem_iff_getElem?.1 h2
    obtain ⟨j, hj⟩ := List.mem_iff_getElem?.1 h
    have hil : i < (L.map (·.1)).length := by simp; exact (List.getElem?_eq_some_iff.1 hi).1
    have : i = j := (List.getElem?_inj hil hn).1 (by rw [List.getElem?_map, List.getElem?_map, hi, hj]; simp [h1])
    subst this
    rw [hi] at hj
    exact Option.some.inj hj
   rw [this]; rfl
theorem lput_new (h : lget L k = none) : lput L k v = L ++ [(k, v)] := by
 unfold lput
 have : L.findIdx? (fun p => k == p.1) = none := by
  rw [List.findIdx?_eq_none_iff]
  intro p hp
  have := lget_none.1 h
  cases hk : (k == p.1) with
  | false => rfl
  | true => exact absurd (List.mem_map.2 ⟨p, hp, (beq_iff_eq.1 hk).symm⟩) this
 rw [this]
theorem lput_keys (h : lget L k ≠ none) : (lput L k v).map (·.1) = L.map (·.1) := by
 unfold lput
 cases hf : L.findIdx? (fun p => k == p.1) with
 | none =>
  exfalso
  apply h
  rw [lget_none]
  intro hm
  obtain ⟨p, hp, he⟩ := List.mem_map.1 hm
  have := (List.findIdx?_eq_none_iff.1 hf) p hp
  simp [he] at this
 | some i =>
  rw [List.findIdx?_eq_some_iff_getElem] at hf
  obtain ⟨hlt, hk, _⟩ := hf
  simp only [List.map_set]
  apply List.ext_getElem?
  intro j
  by_cases hj : i = j
  ·subst hj
   rw [List.getElem?_set_self (by simpa using hlt), List.getElem?_map, List.getElem?_eq_getElem hlt]
   simpa using hk
  ·rw [List.getElem?_set_ne hj]
theorem lput_nodup (hn : NoDup L) : NoDup (lput L k v) := by
 cases h : lget L k with
 | none =>
  rw [lput_new h]
  unfold NoDup at *
  rw [List.map_append, List.nodup_append]
  refine ⟨hn, by simp, fun a ha b hb => ?_⟩
  simp at hb
  subst hb
  exact fun e => lget_none.1 h (e ▸ ha)
 | some u =>
  unfold NoDup at *
  rw [lput_keys (by rw [h]; simp)]
  exact hn
theorem lput_mem (hn : NoDup L) {q : Int × α} : q ∈ lput L k v ↔ q = (k, v) ∨ (q ∈ L ∧ q.1 ≠ k) := by
 unfold lput
 cases hf : L.findIdx? (fun p => k == p.1) with
 | none =>
  rw [List.mem_append, List.mem_singleton]
  have hk : ∀ p ∈ L, p.1 ≠ k := fun p hp he => by
   have := (List.findIdx?_eq_none_iff.1 hf) p hp
   simp [he] at this
  constructor
  ·rintro (h | h)
   ·exact .inr ⟨h, hk q h⟩
   ·exact .inl h
  ·rintro (h | h)
   ·exact .inr h
   ·exact .inl h.1
 | some i =>
  rw [List.findIdx?_eq_some_iff_getElem] at hf
  obtain ⟨hlt, hk, _⟩ := hf
  have hk' : L[i].1 = k := (beq_iff_eq.1 hk).symm
  rw [List.mem_iff_getElem?]
  constructor
  ·rintro ⟨j, hj⟩
   by_cases hij : i = j
   ·subst hij
    rw [List.getElem?_set_self hlt] at hj
    exact .inl (Option.some.inj hj).symm
   ·rw [List.getElem?_set_ne hij] at hj
    refine .inr ⟨List.mem_of_getElem? hj, fun he => hij ?_⟩
    have hil : i < (L.map (·.1)).length := by simpa using hlt
    exact (List.getElem?_inj hil hn).1 (by rw [List.getElem?_map, List.getElem?_map, hj, List.getElem?_eq_getElem hlt]; simp [he, hk'])
  ·rintro (rfl | ⟨hq, hne⟩)
   ·exact ⟨i, List.getElem?_set_self hlt⟩
   ·obtain ⟨j, hj⟩ := List.mem_iff_getElem?.1 hq
    refine ⟨j, ?_⟩
    have : i ≠ j := fun e => by
     subst e
     rw [List.getElem?_eq_getElem hlt] at hj
     obtain rfl := Option.some.inj hj
     exact hne hk'
    rw [List.getElem?_set_ne this]; exact hj
theorem lput_length : (lput L k v).length = if (lget L k).isSome then L.length else L.length + 1 := by
 cases h : lget L k with
 | none => rw [lput_new h]; simp
 | some u =>
  have := congrArg List.length (lput_keys (v := v) (L := L) (k := k) (by rw [h]; simp))
  simpa using this
end
/-! ### From the statement's world -/
open Go.ChangeShapes Go.WideShapes Go.ChangeAt Go.RowKit in
theorem law_calls_g {E : Env} {f : FuncId} {ds : List D} (h : PCall E f ds (.bool true)) {W : World} {args : Array Value} (hg : ∀ g sz xs, E.gl g = some (sz, xs) → RV W (Old W) [] (.pval sz xs 0 0) (.pointer (some ⟨g, 0, none⟩)))
  (ha : RVL W (Old W) [] (ds.map .d) args) : Calls E.P f args W fun e W' => e = .returned (.bool true) ∧ Below W.heap.size W W' := by
 have hS : SR E W (Old W) [] [] := ⟨rfl, fun id s o h => by simp at h, fun id s o b h => by simp at h, fun i j si sj oi oj b h => by simp at h, fun b h => h, hg⟩
 refine (h.2 W (Old W) [] args hS ha).mono ?_
 rintro e W' ⟨v, r, H', F', Γ', rfl, hS', hv, rfl, hX⟩
 rw [RD_bool hv.of_d]
 exact ⟨rfl, hX.os, hX.tape, hX.output, hX.size, fun k hk => hX.unch k hk (fun ⟨id, s, o, h1, _⟩ => by simp at h1)⟩
theorem glob_one {W : World} {g : Nat} {d : D} {v : Value} (h : W.cell? ⟨g, 0, none⟩ = some v) (hd : RD W (Old W) d v) (h1 : d.one = true) : RV W (Old W) [] (.pval 1 [[d]] 0 0) (.pointer (some ⟨g, 0, none⟩)) := by
 have hb : g < W.heap.size := cell_old h
 have : RD W (Old W) (.slice 1 [[d]]) (.slice (some ⟨g, 0, none⟩) ([[d]] : List (List D)).length 1) := .slice 1 [[d]] (some ⟨g, 0, none⟩) 1 (fun _ _ => v) (by simp) (fun _ => rfl) (by simp)
  (fun i x j e hi hj => by
   cases i with
   | succ i => simp at hi
   | zero =>
    simp at hi
    subst hi
    cases j with
    | succ j => simp at hj
    | zero =>
     simp at hj
     subst hj
     exact ⟨by rw [hd.one_iff]; exact h1, _, rfl, hb, by simpa [Addr.add] using h⟩)
  (fun i x j e hi hj => by
   cases i with
   | succ i => simp at hi
   | zero =>
    simp at hi
    subst hi
    cases j with
    | succ j => simp at hj
    | zero => simp at hj; subst hj; exact hd)
 have := RV.pval (Γ := []) (i := 0) (k := 0) this (by simp)
 simpa [Addr.add] using this
/-! ### For errors.As -/
theorem RVL_two {w : World} {F : Nat → Prop} {Γ : List Slot} {a b : AV} {vs : Array Value} (h : RVL w F Γ [a, b] vs) : ∃ x y, vs = #[x, y] ∧ RV w F Γ a x ∧ RV w F Γ b y := by
 obtain ⟨l⟩ := vs
 obtain ⟨h1, h2⟩ := h
 match l with
 | [] => simp at h1
 | [_] => simp at h1
 | [x, y] => exact ⟨x, y, rfl, by simpa using h2 0 a rfl, by simpa using h2 1 b rfl⟩
 | _ :: _ :: _ :: _ => simp at h1
theorem RVL_nil {w : World} {F : Nat → Prop} {Γ : List Slot} {b : AV} {vs : Array Value} (h : RVL w F Γ [.d .nili, b] vs) : ∃ y, vs = #[.nilIface, y] := by
 obtain ⟨x, y, rfl, h1, h2⟩ := RVL_two h
 have := h1.of_d
 cases this
 exact ⟨y, rfl⟩
theorem RVL_as {w : World} {F : Nat → Prop} {Γ : List Slot} {T PT : TypeId} {c : Int} {vs : Array Value} (h : RVL w F Γ [.d (.iface T (.int .i64 c)), .iface PT (.pvar 0 0)] vs) :
  ∃ s b, Γ[0]? = some s ∧ s.b = some b ∧ vs = #[.iface T (.int .i64 c), .iface PT (.pointer (some ⟨b, 0, none⟩))] := by
 obtain ⟨x, y, rfl, h1, h2⟩ := RVL_two h
 have ex : x = .iface T (.int .i64 c) := by
  have h3 := h1.of_d
  cases h3 with
  | iface _ _ u hu => rw [RD_int hu]
 subst ex
 cases h2 with
 | iface _ _ u hu =>
  cases hu with
  | pvar hs hb => exact ⟨_, _, hs, hb, rfl⟩
theorem glob_cell {w : World} {F : Nat → Prop} {T : TypeId} {a : Addr} {g : Nat} (h : RV w F [] (.pval 1 [[.iface T (.agg [.ptr a])]] 0 0) (.pointer (some ⟨g, 0, none⟩))) : w.cell? ⟨g, 0, none⟩ = some (.iface T (.agg #[.pointer (some a)])) := by
 generalize hv : Value.pointer (some ⟨g, 0, none⟩) = v at h
 cases h with
 | pval h hi =>
  rename_i c a'
  have ha : a'.add (0 * 1 + 0) = ⟨g, 0, none⟩ := by simpa using (Value.pointer.inj hv).symm
  cases h with
  | slice _ _ _ _ f hc hA hl hm hr =>
   obtain ⟨_, a2, he, _, hcell⟩ := hm 0 _ 0 (.iface T (.agg [.ptr a])) rfl rfl
   obtain rfl := Option.some.inj he
   rw [ha] at hcell
   have hrd := hr 0 _ 0 (.iface T (.agg [.ptr a])) rfl rfl
   rw [hcell]
   generalize f 0 0 = u at hrd
   cases hrd with
   | iface _ _ v hv =>
    cases hv with
    | agg _ vs hs h1 hr2 =>
     have := hr2 0 (.ptr a) rfl
     obtain ⟨l⟩ := vs
     match l with
     | [] => simp at hs
     | [y] =>
      simp at this
      cases this
      rfl
     | _ :: _ :: _ => simp at hs
theorem setCell_putB {w : World} {b : Nat} {c : Array Value} {ty : TypeId} {fr : Nat × Nat} (h : w.heap[b]? = some (.cells c ty fr)) (v : Value) : w.setCell ⟨b, 0, none⟩ v = putB w b (.cells (c.setIfInBounds 0 v) ty fr) := by
 have hlt : b < w.heap.size := (Array.getElem?_eq_some_iff.1 h).1
 have hb : w.heap[b] = .cells c ty fr := (Array.getElem?_eq_some_iff.1 h).2
 unfold World.setCell putB
 congr 1
 apply Array.ext_getElem?
 intro i
 by_cases hi : i = b
 ·subst hi
  rw [Array.getElem?_modify, if_pos rfl, h]
  simp [hlt]
 ·rw [Array.getElem?_setIfInBounds_ne (Ne.symm hi)]
  simp [Array.getElem?_modify, Ne.symm hi]
theorem alloc_old {w : World} (o : Obj) {b : Nat} (h : b < w.heap.size) : (w.alloc o).heap[b]? = w.heap[b]? := Go.RowKit.Below.heap_alloc _ _ _ h
theorem out_as {E : Env} {w : World} {F : Nat → Prop} {Γ : List Slot} {g : FuncId} {vs : Array Value} {c0 : AV} {s : Slot} {b : Nat} {o1 o2 o3 o4 : Obj} {c : Int} (hS : SR E w F Γ [.var [c0]]) (hs : Γ[0]? = some s) (hb : s.b = some b)
  (h : ∀ old, w.cell? ⟨b, 0, none⟩ = some old → w.frozen? ⟨b, 0, none⟩ = false → Calls E.P g vs w fun ev w' => ev = .returned (.bool true) ∧ w' = ((((w.alloc o1).alloc o2).alloc o3).alloc o4).setCell ⟨b, 0, none⟩ (.int .i64 c)) :
  Calls E.P g vs w fun e w' => ∃ v r H' F' Γ', e = .returned v ∧ SR E w' F' Γ' H' ∧ RV w' F' Γ' r v ∧ (r = .d (.bool true) ∧ H' = [.var [.d (.int .i64 c)]]) ∧ Ext ([.var [c0]] : List AObj).length w F Γ [.var [c0]] w' F' Γ' H' := by
 obtain ⟨b', cc, ty, hb', hh, hsz, hcells⟩ := hS.obj 0 s _ hs rfl
 obtain rfl : b' = b := by rw [hb] at hb'; exact (Option.some.inj hb').symm
 have hn : ([.var [c0]] : List AObj).length ≤ Γ.length := by rw [hS.len]; exact Nat.le_refl _
 have hsz1 : cc.size = 1 := by simpa using hsz
 have hlt : b' < w.heap.size := (Array.getElem?_eq_some_iff.1 hh).1
 have hc0 : w.cell? ⟨b', 0, none⟩ = some (cc.getD 0 undef) := by rw [cell_of_heap hh, getD_of (by omega)]
 refine (h _ hc0 (by simp [World.frozen?, hh])).mono ?_
 rintro e w' ⟨rfl, rfl⟩
 have hold : ∀ q, q < w.heap.size → ((((w.alloc o1).alloc o2).alloc o3).alloc o4).heap[q]? = w.heap[q]? := fun q hq => by
  rw [alloc_old _ (by simp; omega), alloc_old _ (by simp; omega), alloc_old _ (by simp; omega), alloc_old _ hq]
 have hsize : w.heap.size ≤ ((((w.alloc o1).alloc o2).alloc o3).alloc o4).heap.size := by simp; omega
 have hos : ((((w.alloc o1).alloc o2).alloc o3).alloc o4).os = w.os ∧ ((((w.alloc o1).alloc o2).alloc o3).alloc o4).tape = w.tape ∧ ((((w.alloc o1).alloc o2).alloc o3).alloc o4).output = w.output := ⟨rfl, rfl, rfl⟩
 generalize (((w.alloc o1).alloc o2).alloc o3).alloc o4 = w4 at *
 have hh4 : w4.heap[b']? = some (.cells cc ty (0, 0)) := by rw [hold b' hlt]; exact hh
 have hS4 : SR E w4 F Γ [.var [c0]] := hS.world hsize (fun q hq => hold q (by
  rcases hq with hq | hq
  ·exact hS.low q hq
  ·exact live_lt hS hq))
 have hX4 : Ext ([.var [c0]] : List AObj).length w F Γ [.var [c0]] w4 F Γ [.var [c0]] := ⟨hos.1, hos.2.1, hos.2.2, hsize, fun q hq _ => hold q hq, fun _ h => h, fun _ h _ => .inl h, fun _ h _ => h, fun _ _ => rfl, hn⟩
 rw [setCell_putB hh4]
 obtain ⟨F', Γ', H', av, g1, g2, ⟨rfl, rfl⟩, g4, g5⟩ := out_ob (n0 := ([.var [c0]] : List AObj).length) hS4 hn hs rfl rfl hb (ob := .cells (cc.setIfInBounds 0 (.int .i64 c)) ty (0, 0)) (o' := .var [.d (.int .i64 c)])
  ⟨b', _, ty, hb, putB_same hh4 _, by simp [hsz1], fun j av hj => by
   cases j with
   | zero =>
    simp at hj
    subst hj
    have e : (cc.setIfInBounds 0 (.int .i64 c)).getD 0 undef = .int .i64 c := getD_set_self cc 0 _ (by omega)
    rw [e]
    exact ⟨rfl, .d (.int _ _)⟩
   | succ j => simp at hj⟩ (K := fun H' => H' = [.var [.d (.int .i64 c)]]) rfl (v := .bool true) (av := .d (.bool true)) (.d (.bool _))
 exact ⟨_, _, _, F', Γ', rfl, g1, g2, ⟨rfl, rfl⟩, hX4.trans (Nat.le_refl _) g4⟩
/-! ### What errors.As leaves behind, told shorter -/
structure Later (w w' : World) : Prop where
 size : w.heap.size ≤ w'.heap.size
 hold : ∀ q, q < w.heap.size → w'.heap[q]? = w.heap[q]?
 os : w'.os = w.os
 tape : w'.tape = w.tape
 output : w'.output = w.output
theorem Later.refl (w : World) : Later w w := ⟨Nat.le_refl _, fun _ _ => rfl, rfl, rfl, rfl⟩
theorem Later.alloc {w w' : World} (h : Later w w') (o : Obj) : Later w (w'.alloc o) :=
 ⟨Nat.le_trans h.size (by simp), fun q hq => by rw [alloc_old _ (Nat.lt_of_lt_of_le hq h.size)]; exact h.hold q hq, h.os, h.tape, h.output⟩
theorem ACalls.cutTo {E : Env} {g : FuncId} {args : List AV} {H H1 : List AObj} {v : AV} (σ : List Nat) (hσ : σ = List.range H.length) (h : ACalls E g args H fun r H' => r = v ∧ ∃ l, H' = H1 ++ l)
  (hs : ∀ l, sbl (rn σ (H1 ++ l).length) σ.length (H1 ++ l) σ H1) (hv : ∀ m, tellL (rn σ m) σ.length [v] [v]) : ACalls E g args H fun r H' => r = v ∧ H' = H1 :=
 h.retell (by
  rintro r H' ⟨rfl, l, rfl⟩
  have hlen : H1.length = σ.length := (sbl_get (hs [])).1
  refine WK.pick σ (hs l) (by rw [hσ]; exact List.nodup_range) (fun i hi => ?_) (hv _) (fun id hid => ?_) (WK.now ⟨_, rfl, rfl, rfl⟩)
  ·rw [hσ, List.mem_range] at hi
   rw [List.length_append, hlen, hσ, List.length_range]; omega
  ·rw [hσ]; simp [hid])
end Go.Abs
end
