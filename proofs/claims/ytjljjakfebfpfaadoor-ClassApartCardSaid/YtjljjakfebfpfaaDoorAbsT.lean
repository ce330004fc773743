/-
  Contracts over a few objects, used among more; maps from whole numbers, by value.
-/
import Derived.Test.YtjljjakfebfpfaaDoorAbs15
set_option autoImplicit false
set_option linter.unusedVariables false
set_option linter.unusedSimpArgs false
namespace Go.Abs

section
variable {E : Env} {n0 : Nat} {H H' H0 H1 : List AObj} {t t' : List AV} {ds ds' : List Nat}
/-- Telling anew, with marks. -/
theorem Wk.tellD (σ : List Nat) (hs : Sb σ H H') (ht : tellL (rn σ H.length) σ.length t' t) (hd : ds'.map (rn σ H.length) = ds) (hdl : ∀ d ∈ ds', d < σ.length) (hn0 : ∀ id, id < n0 → σ[id]? = some id) :
    Wk E n0 t H ds t' H' ds' := fun w F Γ tm df hS hT hD hn => by
  obtain ⟨F1, Γ1, k1, k2, k3, k4⟩ := Wk.tell (E := E) (n0 := n0) σ hs ht hn0 w F Γ tm [] hS hT ⟨rfl, fun i id hi => by simp at hi⟩ hn
  have hin : ∀ i ∈ σ, i < Γ.length := fun i hi => by rw [hS.len]; exact hs.inH i hi
  obtain ⟨hS0, hL0⟩ := hS.sub hs
  have hdown : ∀ id s, id < σ.length → Γ[rn σ H.length id]? = some s → (sg σ Γ)[id]? = some s := fun id s hid hg => by
    rw [rn_lt hid] at hg
    exact (sg_get hin).2 ⟨_, List.getElem?_eq_getElem hid, hg⟩
  obtain ⟨h1, h2⟩ := tellL_get ht
  refine ⟨F, sg σ Γ, hS0, ⟨by rw [hT.1, h1], fun j av hj => ?_⟩, ⟨by rw [hD.1, ← hd]; simp, fun i id hi => ?_⟩, ?_⟩
  · rcases h2 j av hj with rfl | ⟨h3, h4⟩
    · exact .dead _
    · exact (hT.2 j _ h3).down hdown (AV.bel_ok _ _ h4)
  · have hi' : ds[i]? = some (rn σ H.length id) := by rw [← hd, List.getElem?_map, hi]; rfl
    obtain ⟨s, b, q1, q2, q3⟩ := hD.2 i _ hi'
    exact ⟨s, b, hdown _ _ (hdl _ (List.mem_of_getElem? hi)) q1, q2, q3⟩
  · refine ⟨rfl, rfl, rfl, Nat.le_refl _, fun _ _ _ => rfl, fun _ h => h, fun _ h _ => .inl h, fun b hb _ => hL0 b hb, fun id hid => ?_, ?_⟩
    · have e := hn0 id hid
      cases hg : Γ[id]? with
      | none =>
        have := hin id (List.mem_of_getElem? e)
        rw [List.getElem?_eq_getElem this] at hg; cases hg
      | some s => exact (sg_get hin).2 ⟨id, e, hg⟩
    · cases n0 with
      | zero => exact Nat.zero_le _
      | succ n0 =>
        have := (List.getElem?_eq_some_iff.1 (hn0 n0 (by omega))).1
        simp only [sg, List.length_map]; omega
theorem WK.pickD {K : K3} (σ : List Nat) (hs : sbl (rn σ H.length) σ.length H σ H') (hnd : σ.Nodup) (hin : ∀ i ∈ σ, i < H.length)
    (ht : tellL (rn σ H.length) σ.length t' t) (hd : ds'.map (rn σ H.length) = ds) (hdl : ∀ d ∈ ds', d < σ.length) (hn0 : ∀ id, id < n0 → σ[id]? = some id) (k : WK E n0 K t' H' ds') : WK E n0 K t H ds :=
  WK.step (Wk.tellD σ ⟨(sbl_get hs).1, hnd, hin, (sbl_get hs).2⟩ ht hd hdl hn0) k

/-- A contract over few objects, used among more. -/
theorem ACalls.at {g : FuncId} {args0 args : List AV} {v : AV} {K : AV → List AObj → Prop} (σ : List Nat) (h : ACalls E g args0 H0 fun r H' => r = v ∧ H' = H1) (hs : sbl (rn σ H.length) σ.length H σ H0) (hnd : σ.Nodup)
    (hin : ∀ i ∈ σ, i < H.length) (ha : args = args0.map (AV.ren (rn σ H.length))) (hb : AV.belL σ.length args0 = true) (hK : K (v.ren (rn σ H.length)) (lift σ H H1)) : ACalls E g args H K :=
  h.frame σ ⟨(sbl_get hs).1, hnd, hin, (sbl_get hs).2⟩ ha hb fun v0 H0' ⟨h1, h2⟩ => by subst h1 h2; exact hK
/-- .. where nothing of the objects turns. -/
theorem ACalls.hushAt {g : FuncId} {args0 args : List AV} {v : AV} {K : AV → Prop} (σ : List Nat) (h : ACalls E g args0 H0 fun r H' => r = v ∧ H' = H1) (hs : sbl (rn σ H.length) σ.length H σ H0) (hnd : σ.Nodup)
    (hin : ∀ i ∈ σ, i < H.length) (ha : args = args0.map (AV.ren (rn σ H.length))) (hb : AV.belL σ.length args0 = true) (hl : lift σ H H1 = H) (hK : K (v.ren (rn σ H.length))) : QC E g args H K :=
  ⟨v.ren (rn σ H.length), h.at σ hs hnd hin ha hb ⟨rfl, hl⟩, hK⟩
/-- A nil slice, as a row of data that holds nothing. -/
theorem WK.nild {K : K3} (j sz : Nat) (ht : t[j]? = some (.d .nils)) (k : WK E n0 K (t.set j (.d (.slice sz []))) H ds) : WK E n0 K t H ds :=
  WK.step (fun w F Γ tm df hS hT hD hn => ⟨F, Γ, hS, ⟨by rw [hT.1]; simp, fun i av hi => by
    rcases set_get hi with ⟨rfl, rfl, _⟩ | ⟨_, hi⟩
    · exact .d (nils_slice sz (hT.2 _ _ ht).of_d)
    · exact hT.2 i av hi⟩, hD, Ext.refl hn⟩) k
/-- What a call comes to, told anew. -/
theorem ACalls.retell {g : FuncId} {args : List AV} {K K' : AV → List AObj → Prop} (h : ACalls E g args H K) (hK : ∀ r H', K r H' → WK E H.length (fun t H _ => ∃ r', t = [r'] ∧ K' r' H) [r] H' []) : ACalls E g args H K' := by
  refine ⟨h.1, fun w F Γ vs hS hV => (h.2 w F Γ vs hS hV).mono ?_⟩
  rintro e w' ⟨v, r, H', F', Γ', rfl, hS', hv, hk, hX⟩
  obtain ⟨t', H'', ds'', hwk, r', rfl, hk'⟩ := hK r H' hk
  have hT : RT w' F' Γ' [r] #[v] := ⟨rfl, fun j av hj => by
    cases j with
    | zero => simp at hj; subst hj; simpa using hv
    | succ j => simp at hj⟩
  obtain ⟨F2, Γ2, k1, k2, k3, k4⟩ := hwk w' F' Γ' #[v] [] hS' hT ⟨rfl, fun i id hi => by simp at hi⟩ hX.nlen
  exact ⟨v, r', H'', F2, Γ2, rfl, k1, by simpa using k2.2 0 r' rfl, hk', hX.trans (Nat.le_refl _) k4⟩
/-- The same contract, its arguments told by weaker words. -/
theorem ACalls.here {g : FuncId} {args : List AV} {v : AV} {K : AV → List AObj → Prop} (h : ACalls E g args H fun r H' => r = v ∧ H' = H1) (hK : K v H1) : ACalls E g args H K := h.thus hK
end

/-! ### Maps from whole numbers -/
theorem mapErase {α β : Type} (f : α → β) : ∀ (l : List α) (i : Nat), (l.eraseIdx i).map f = (l.map f).eraseIdx i
  | [], i => by simp
  | a :: l, 0 => by simp
  | a :: l, i + 1 => by simp [mapErase f l i]
def entE {α : Type} (f : α → D) (L : List (Int × α)) : List (D × D) := L.map fun p => (.int .i64 p.1, f p.2)
def lget {α : Type} (L : List (Int × α)) (k : Int) : Option α := (L.find? fun p => k == p.1).map (·.2)
def lput {α : Type} (L : List (Int × α)) (k : Int) (v : α) : List (Int × α) := match L.findIdx? (fun p => k == p.1) with
  | some i => L.set i (k, v)
  | none => L ++ [(k, v)]
def ldel {α : Type} (L : List (Int × α)) (k : Int) : List (Int × α) := match L.findIdx? (fun p => k == p.1) with
  | some i => L.eraseIdx i
  | none => L
section
variable {α : Type} (f : α → D) (L : List (Int × α)) (k : Int) (v : α)
theorem dkeq_int (a b : Int) (k : IntKind) : dkeq (.int k a) (.int k b) = (a == b) := by simp [dkeq, skeq]
theorem entE_length : (entE f L).length = L.length := by simp [entE]
theorem entE_all : (∀ p ∈ entE f L, isIntK .i64 p.1 = true) = True := by
  simp only [eq_iff_iff, iff_true]
  intro p hp
  obtain ⟨q, _, rfl⟩ := List.mem_map.1 hp
  simp [isIntK]
theorem entE_nil : entE f [] = [] := rfl
theorem entE_find : (entE f L).findIdx? (fun p => dkeq (.int .i64 k) p.1) = L.findIdx? (fun p => k == p.1) := by
  rw [entE, findIdx_map]
  simp only [dkeq_int]
theorem entE_get : dget (entE f L) (.int .i64 k) = (lget L k).map f := by
  unfold dget lget entE
  rw [List.find?_map]
  have : ((fun p : D × D => dkeq (.int .i64 k) p.1) ∘ fun p : Int × α => (D.int .i64 p.1, f p.2)) = fun p => k == p.1 := by
    funext p
    simp only [Function.comp_apply, dkeq_int]
  rw [this]
  cases L.find? (fun p => k == p.1) <;> rfl
theorem entE_put : dput (entE f L) (.int .i64 k) (f v) = entE f (lput L k v) := by
  unfold dput lput
  rw [entE_find]
  cases L.findIdx? (fun p => k == p.1) with
  | none => simp [entE]
  | some i => simp [entE, List.map_set]
theorem entE_del : ddel (entE f L) (.int .i64 k) = entE f (ldel L k) := by
  unfold ddel ldel
  rw [entE_find]
  cases L.findIdx? (fun p => k == p.1) with
  | none => rfl
  | some i => simp [entE, mapErase]
theorem entE_entry {j : Nat} (h : j < L.length) : (entryOf (entE f L) j).1 = .int .i64 ((L.map (·.1)).getD j 0) := by
  simp [entryOf, entE, List.getD_eq_getElem?_getD, h]
theorem isIntK_int (n : Int) (k : IntKind) : isIntK k (.int k n) = true := by simp [isIntK]
end

/-- The keys that have come, by their places. -/
def keysAt {α : Type} (L : List (Int × α)) (idx : List Nat) : List Int := idx.map fun j => (L.map (·.1)).getD j 0
theorem keysAt_snoc {α : Type} (L : List (Int × α)) (idx : List Nat) (j : Nat) : keysAt L (idx ++ [j]) = keysAt L idx ++ [(L.map (·.1)).getD j 0] := by simp [keysAt]
theorem idx_le {idx : List Nat} (hn : idx.Nodup) {n : Nat} (hl : ∀ j ∈ idx, j < n) : idx.length ≤ n := by
  have := hn.length_le_of_subset (l₂ := List.range n) (fun j hj => List.mem_range.2 (hl j hj))
  simpa using this
theorem idx_perm {idx : List Nat} (hn : idx.Nodup) {n : Nat} (hl : ∀ j ∈ idx, j < n) (ha : ∀ j, j < n → j ∈ idx) : idx.Perm (List.range n) :=
  (List.perm_ext_iff_of_nodup hn List.nodup_range).2 fun j => ⟨fun h => List.mem_range.2 (hl j h), fun h => ha j (List.mem_range.1 h)⟩
theorem keysAt_perm {α : Type} {L : List (Int × α)} {idx : List Nat} (hn : idx.Nodup) (hl : ∀ j ∈ idx, j < L.length) (ha : ∀ j, j < L.length → j ∈ idx) : (keysAt L idx).Perm (L.map (·.1)) := by
  have h1 := (idx_perm hn hl ha).map fun j => (L.map (·.1)).getD j 0
  have h2 : (List.range L.length).map (fun j => (L.map (·.1)).getD j 0) = L.map (·.1) := by
    apply List.ext_getElem (by simp)
    intro i h1 h2
    simp at h1
    simp [h1]
  rw [h2] at h1
  exact h1
/-- No key twice. -/
def NoDup {α : Type} (L : List (Int × α)) : Prop := (L.map (·.1)).Nodup
section
variable {α : Type} {L : List (Int × α)} {k : Int} {v : α}
theorem find_some {p : Int × α} (h : L.find? (fun p => k == p.1) = some p) : p.1 = k ∧ p ∈ L := by
  have h1 := List.find?_some h
  exact ⟨(beq_iff_eq.1 h1).symm, List.mem_of_find?_eq_some h⟩
theorem lget_none : lget L k = none ↔ k ∉ L.map (·.1) := by
  unfold lget
  rw [Option.map_eq_none_iff, List.find?_eq_none]
  constructor
  · intro h hm
    obtain ⟨p, hp, he⟩ := List.mem_map.1 hm
    exact h p hp (by simp [he])
  · intro h p hp he
    exact h (List.mem_map.2 ⟨p, hp, (beq_iff_eq.1 he).symm⟩)
theorem lget_mem (hn : NoDup L) : lget L k = some v ↔ (k, v) ∈ L := by
  unfold lget
  constructor
  · intro h
    obtain ⟨p, hp, rfl⟩ := Option.map_eq_some_iff.1 h
    obtain ⟨h1, h2⟩ := find_some hp
    rw [← h1]; exact h2
  · intro h
    cases hf : L.find? (fun p => k == p.1) with
    | none => exact absurd (by simp) (List.find?_eq_none.1 hf _ h)
    | some p =>
      obtain ⟨h1, h2⟩ := find_some hf
      have : p = (k, v) := by
        unfold NoDup at hn
        have h3 : p.1 = (k, v).1 := h1
        obtain ⟨i, hi⟩ := List.mem_iff_getElem?.1 h2
        obtain ⟨j, hj⟩ := List.mem_iff_getElem?.1 h
        have hil : i < (L.map (·.1)).length := by simp; exact (List.getElem?_eq_some_iff.1 hi).1
        have : i = j := (List.getElem?_inj hil hn).1 (by rw [List.getElem?_map, List.getElem?_map, hi, hj]; simp [h1])
        subst this
        rw [hi] at hj
        exact Option.some.inj hj
      rw [this]; rfl
theorem lput_new (h : lget L k = none) : lput L k v = L ++ [(k, v)] := by
  unfold lput
  have : L.findIdx? (fun p => k == p.1) = none := by
    rw [List.findIdx?_eq_none_iff]
    intro p hp
    have := lget_none.1 h
    cases hk : (k == p.1) with
    | false => rfl
    | true => exact absurd (List.mem_map.2 ⟨p, hp, (beq_iff_eq.1 hk).symm⟩) this
  rw [this]
theorem lput_keys (h : lget L k ≠ none) : (lput L k v).map (·.1) = L.map (·.1) := by
  unfold lput
  cases hf : L.findIdx? (fun p => k == p.1) with
  | none =>
    exfalso
    apply h
    rw [lget_none]
    intro hm
    obtain ⟨p, hp, he⟩ := List.mem_map.1 hm
    have := (List.findIdx?_eq_none_iff.1 hf) p hp
    simp [he] at this
  | some i =>
    rw [List.findIdx?_eq_some_iff_getElem] at hf
    obtain ⟨hlt, hk, _⟩ := hf
    simp only [List.map_set]
    apply List.ext_getElem?
    intro j
    by_cases hj : i = j
    · subst hj
      rw [List.getElem?_set_self (by simpa using hlt), List.getElem?_map, List.getElem?_eq_getElem hlt]
      simpa using hk
    · rw [List.getElem?_set_ne hj]
theorem lput_nodup (hn : NoDup L) : NoDup (lput L k v) := by
  cases h : lget L k with
  | none =>
    rw [lput_new h]
    unfold NoDup at *
    rw [List.map_append, List.nodup_append]
    refine ⟨hn, by simp, fun a ha b hb => ?_⟩
    simp at hb
    subst hb
    exact fun e => lget_none.1 h (e ▸ ha)
  | some u =>
    unfold NoDup at *
    rw [lput_keys (by rw [h]; simp)]
    exact hn
theorem lput_mem (hn : NoDup L) {q : Int × α} : q ∈ lput L k v ↔ q = (k, v) ∨ (q ∈ L ∧ q.1 ≠ k) := by
  unfold lput
  cases hf : L.findIdx? (fun p => k == p.1) with
  | none =>
    rw [List.mem_append, List.mem_singleton]
    have hk : ∀ p ∈ L, p.1 ≠ k := fun p hp he => by
      have := (List.findIdx?_eq_none_iff.1 hf) p hp
      simp [he] at this
    constructor
    · rintro (h | h)
      · exact .inr ⟨h, hk q h⟩
      · exact .inl h
    · rintro (h | h)
      · exact .inr h
      · exact .inl h.1
  | some i =>
    rw [List.findIdx?_eq_some_iff_getElem] at hf
    obtain ⟨hlt, hk, _⟩ := hf
    have hk' : L[i].1 = k := (beq_iff_eq.1 hk).symm
    rw [List.mem_iff_getElem?]
    constructor
    · rintro ⟨j, hj⟩
      by_cases hij : i = j
      · subst hij
        rw [List.getElem?_set_self hlt] at hj
        exact .inl (Option.some.inj hj).symm
      · rw [List.getElem?_set_ne hij] at hj
        refine .inr ⟨List.mem_of_getElem? hj, fun he => hij ?_⟩
        have hil : i < (L.map (·.1)).length := by simpa using hlt
        exact (List.getElem?_inj hil hn).1 (by rw [List.getElem?_map, List.getElem?_map, hj, List.getElem?_eq_getElem hlt]; simp [he, hk'])
    · rintro (rfl | ⟨hq, hne⟩)
      · exact ⟨i, List.getElem?_set_self hlt⟩
      · obtain ⟨j, hj⟩ := List.mem_iff_getElem?.1 hq
        refine ⟨j, ?_⟩
        have : i ≠ j := fun e => by
          subst e
          rw [List.getElem?_eq_getElem hlt] at hj
          obtain rfl := Option.some.inj hj
          exact hne hk'
        rw [List.getElem?_set_ne this]; exact hj
theorem ldel_mem (hn : NoDup L) {q : Int × α} : q ∈ ldel L k ↔ q ∈ L ∧ q.1 ≠ k := by
  unfold ldel
  cases hf : L.findIdx? (fun p => k == p.1) with
  | none =>
    have hk : ∀ p ∈ L, p.1 ≠ k := fun p hp he => by
      have := (List.findIdx?_eq_none_iff.1 hf) p hp
      simp [he] at this
    exact ⟨fun h => ⟨h, hk q h⟩, fun h => h.1⟩
  | some i =>
    rw [List.findIdx?_eq_some_iff_getElem] at hf
    obtain ⟨hlt, hk, _⟩ := hf
    have hk' : L[i].1 = k := (beq_iff_eq.1 hk).symm
    simp only [List.mem_eraseIdx_iff_getElem?]
    have uniq : ∀ {j : Nat} {p : Int × α}, L[j]? = some p → p.1 = k → j = i := fun {j p} hj he => by
      have hil : i < (L.map (·.1)).length := by simpa using hlt
      exact ((List.getElem?_inj hil hn).1 (by rw [List.getElem?_map, List.getElem?_map, hj, List.getElem?_eq_getElem hlt]; simp [he, hk'])).symm
    constructor
    · rintro ⟨j, hne, hj⟩
      exact ⟨List.mem_of_getElem? hj, fun he => hne (uniq hj he)⟩
    · rintro ⟨hq, hne⟩
      obtain ⟨j, hj⟩ := List.mem_iff_getElem?.1 hq
      exact ⟨j, fun e => by subst e; rw [List.getElem?_eq_getElem hlt] at hj; obtain rfl := Option.some.inj hj; exact hne hk', hj⟩
theorem ldel_nodup (hn : NoDup L) : NoDup (ldel L k) := by
  unfold ldel
  split
  · unfold NoDup at *
    rw [mapErase]
    exact hn.sublist (List.eraseIdx_sublist _ _)
  · exact hn
theorem ldel_length : (ldel L k).length = if (lget L k).isSome then L.length - 1 else L.length := by
  unfold ldel
  cases hf : L.findIdx? (fun p => k == p.1) with
  | none =>
    have : lget L k = none := by
      rw [lget_none]
      intro hm
      obtain ⟨p, hp, he⟩ := List.mem_map.1 hm
      have := (List.findIdx?_eq_none_iff.1 hf) p hp
      simp [he] at this
    rw [this]; rfl
  | some i =>
    have hlt : i < L.length := (List.findIdx?_eq_some_iff_getElem.1 hf).1
    have : lget L k ≠ none := by
      rw [Ne, lget_none]
      simp only [Classical.not_not]
      obtain ⟨hlt, hk, _⟩ := List.findIdx?_eq_some_iff_getElem.1 hf
      exact List.mem_map.2 ⟨L[i], List.getElem_mem hlt, (beq_iff_eq.1 hk).symm⟩
    cases hg : lget L k with
    | none => exact absurd hg this
    | some u => simp [List.length_eraseIdx, hlt]
theorem lput_length : (lput L k v).length = if (lget L k).isSome then L.length else L.length + 1 := by
  cases h : lget L k with
  | none => rw [lput_new h]; simp
  | some u =>
    have := congrArg List.length (lput_keys (v := v) (L := L) (k := k) (by rw [h]; simp))
    simpa using this
end

/-! ### From the statement's world -/
open Go.ChangeShapes Go.WideShapes Go.ChangeAt Go.RowKit in
/-- The call of a law that looks at listed variables. -/
theorem law_calls_g {E : Env} {f : FuncId} {ds : List D} (h : PCall E f ds (.bool true)) {W : World} {args : Array Value} (hg : ∀ g sz xs, E.gl g = some (sz, xs) → RV W (Old W) [] (.pval sz xs 0 0) (.pointer (some ⟨g, 0, none⟩)))
    (ha : RVL W (Old W) [] (ds.map .d) args) : Calls E.P f args W fun e W' => e = .returned (.bool true) ∧ Below W.heap.size W W' := by
  have hS : SR E W (Old W) [] [] := ⟨rfl, fun id s o h => by simp at h, fun id s o b h => by simp at h, fun i j si sj oi oj b h => by simp at h, fun b h => h, hg⟩
  refine (h.2 W (Old W) [] args hS ha).mono ?_
  rintro e W' ⟨v, r, H', F', Γ', rfl, hS', hv, rfl, hX⟩
  rw [RD_bool hv.of_d]
  exact ⟨rfl, hX.os, hX.tape, hX.output, hX.size, fun k hk => hX.unch k hk (fun ⟨id, s, o, h1, _⟩ => by simp at h1)⟩
/-- A variable of one cell. -/
theorem glob_one {W : World} {g : Nat} {d : D} {v : Value} (h : W.cell? ⟨g, 0, none⟩ = some v) (hd : RD W (Old W) d v) (h1 : d.one = true) : RV W (Old W) [] (.pval 1 [[d]] 0 0) (.pointer (some ⟨g, 0, none⟩)) := by
  have hb : g < W.heap.size := cell_old h
  have : RD W (Old W) (.slice 1 [[d]]) (.slice (some ⟨g, 0, none⟩) ([[d]] : List (List D)).length 1) := .slice 1 [[d]] (some ⟨g, 0, none⟩) 1 (fun _ _ => v) (by simp) (fun _ => rfl) (by simp)
    (fun i x j e hi hj => by
      cases i with
      | succ i => simp at hi
      | zero =>
        simp at hi
        subst hi
        cases j with
        | succ j => simp at hj
        | zero =>
          simp at hj
          subst hj
          exact ⟨by rw [hd.one_iff]; exact h1, _, rfl, hb, by simpa [Addr.add] using h⟩)
    (fun i x j e hi hj => by
      cases i with
      | succ i => simp at hi
      | zero =>
        simp at hi
        subst hi
        cases j with
        | succ j => simp at hj
        | zero => simp at hj; subst hj; exact hd)
  have := RV.pval (Γ := []) (i := 0) (k := 0) this (by simp)
  simpa [Addr.add] using this

/-! ### For errors.As -/
theorem RVL_two {w : World} {F : Nat → Prop} {Γ : List Slot} {a b : AV} {vs : Array Value} (h : RVL w F Γ [a, b] vs) : ∃ x y, vs = #[x, y] ∧ RV w F Γ a x ∧ RV w F Γ b y := by
  obtain ⟨l⟩ := vs
  obtain ⟨h1, h2⟩ := h
  match l with
  | [] => simp at h1
  | [_] => simp at h1
  | [x, y] => exact ⟨x, y, rfl, by simpa using h2 0 a rfl, by simpa using h2 1 b rfl⟩
  | _ :: _ :: _ :: _ => simp at h1
theorem RVL_nil {w : World} {F : Nat → Prop} {Γ : List Slot} {b : AV} {vs : Array Value} (h : RVL w F Γ [.d .nili, b] vs) : ∃ y, vs = #[.nilIface, y] := by
  obtain ⟨x, y, rfl, h1, h2⟩ := RVL_two h
  have := h1.of_d
  cases this
  exact ⟨y, rfl⟩
theorem RVL_as {w : World} {F : Nat → Prop} {Γ : List Slot} {T PT : TypeId} {c : Int} {vs : Array Value} (h : RVL w F Γ [.d (.iface T (.int .i64 c)), .iface PT (.pvar 0 0)] vs) :
    ∃ s b, Γ[0]? = some s ∧ s.b = some b ∧ vs = #[.iface T (.int .i64 c), .iface PT (.pointer (some ⟨b, 0, none⟩))] := by
  obtain ⟨x, y, rfl, h1, h2⟩ := RVL_two h
  have ex : x = .iface T (.int .i64 c) := by
    have h3 := h1.of_d
    cases h3 with
    | iface _ _ u hu => rw [RD_int hu]
  subst ex
  cases h2 with
  | iface _ _ u hu =>
    cases hu with
    | pvar hs hb => exact ⟨_, _, hs, hb, rfl⟩
theorem glob_cell {w : World} {F : Nat → Prop} {T : TypeId} {a : Addr} {g : Nat} (h : RV w F [] (.pval 1 [[.iface T (.agg [.ptr a])]] 0 0) (.pointer (some ⟨g, 0, none⟩))) : w.cell? ⟨g, 0, none⟩ = some (.iface T (.agg #[.pointer (some a)])) := by
  generalize hv : Value.pointer (some ⟨g, 0, none⟩) = v at h
  cases h with
  | pval h hi =>
    rename_i c a'
    have ha : a'.add (0 * 1 + 0) = ⟨g, 0, none⟩ := by simpa using (Value.pointer.inj hv).symm
    cases h with
    | slice _ _ _ _ f hc hA hl hm hr =>
      obtain ⟨_, a2, he, _, hcell⟩ := hm 0 _ 0 (.iface T (.agg [.ptr a])) rfl rfl
      obtain rfl := Option.some.inj he
      rw [ha] at hcell
      have hrd := hr 0 _ 0 (.iface T (.agg [.ptr a])) rfl rfl
      rw [hcell]
      generalize f 0 0 = u at hrd
      cases hrd with
      | iface _ _ v hv =>
        cases hv with
        | agg _ vs hs h1 hr2 =>
          have := hr2 0 (.ptr a) rfl
          obtain ⟨l⟩ := vs
          match l with
          | [] => simp at hs
          | [y] =>
            simp at this
            cases this
            rfl
          | _ :: _ :: _ => simp at hs
theorem setCell_putB {w : World} {b : Nat} {c : Array Value} {ty : TypeId} {fr : Nat × Nat} (h : w.heap[b]? = some (.cells c ty fr)) (v : Value) : w.setCell ⟨b, 0, none⟩ v = putB w b (.cells (c.setIfInBounds 0 v) ty fr) := by
  have hlt : b < w.heap.size := (Array.getElem?_eq_some_iff.1 h).1
  have hb : w.heap[b] = .cells c ty fr := (Array.getElem?_eq_some_iff.1 h).2
  unfold World.setCell putB
  congr 1
  apply Array.ext_getElem?
  intro i
  by_cases hi : i = b
  · subst hi
    rw [Array.getElem?_modify, if_pos rfl, h]
    simp [hlt]
  · rw [Array.getElem?_setIfInBounds_ne (Ne.symm hi)]
    simp [Array.getElem?_modify, Ne.symm hi]
theorem alloc_old {w : World} (o : Obj) {b : Nat} (h : b < w.heap.size) : (w.alloc o).heap[b]? = w.heap[b]? := Go.RowKit.Below.heap_alloc _ _ _ h
theorem out_as {E : Env} {w : World} {F : Nat → Prop} {Γ : List Slot} {g : FuncId} {vs : Array Value} {c0 : AV} {s : Slot} {b : Nat} {o1 o2 o3 o4 : Obj} {c : Int} (hS : SR E w F Γ [.var [c0]]) (hs : Γ[0]? = some s) (hb : s.b = some b)
    (h : ∀ old, w.cell? ⟨b, 0, none⟩ = some old → w.frozen? ⟨b, 0, none⟩ = false → Calls E.P g vs w fun ev w' => ev = .returned (.bool true) ∧ w' = ((((w.alloc o1).alloc o2).alloc o3).alloc o4).setCell ⟨b, 0, none⟩ (.int .i64 c)) :
    Calls E.P g vs w fun e w' => ∃ v r H' F' Γ', e = .returned v ∧ SR E w' F' Γ' H' ∧ RV w' F' Γ' r v ∧ (r = .d (.bool true) ∧ H' = [.var [.d (.int .i64 c)]]) ∧ Ext ([.var [c0]] : List AObj).length w F Γ [.var [c0]] w' F' Γ' H' := by
  obtain ⟨b', cc, ty, hb', hh, hsz, hcells⟩ := hS.obj 0 s _ hs rfl
  obtain rfl : b' = b := by rw [hb] at hb'; exact (Option.some.inj hb').symm
  have hn : ([.var [c0]] : List AObj).length ≤ Γ.length := by rw [hS.len]; exact Nat.le_refl _
  have hsz1 : cc.size = 1 := by simpa using hsz
  have hlt : b' < w.heap.size := (Array.getElem?_eq_some_iff.1 hh).1
  have hc0 : w.cell? ⟨b', 0, none⟩ = some (cc.getD 0 undef) := by rw [cell_of_heap hh, getD_of (by omega)]
  refine (h _ hc0 (by simp [World.frozen?, hh])).mono ?_
  rintro e w' ⟨rfl, rfl⟩
  have hold : ∀ q, q < w.heap.size → ((((w.alloc o1).alloc o2).alloc o3).alloc o4).heap[q]? = w.heap[q]? := fun q hq => by
    rw [alloc_old _ (by simp; omega), alloc_old _ (by simp; omega), alloc_old _ (by simp; omega), alloc_old _ hq]
  have hsize : w.heap.size ≤ ((((w.alloc o1).alloc o2).alloc o3).alloc o4).heap.size := by simp; omega
  have hos : ((((w.alloc o1).alloc o2).alloc o3).alloc o4).os = w.os ∧ ((((w.alloc o1).alloc o2).alloc o3).alloc o4).tape = w.tape ∧ ((((w.alloc o1).alloc o2).alloc o3).alloc o4).output = w.output := ⟨rfl, rfl, rfl⟩
  generalize (((w.alloc o1).alloc o2).alloc o3).alloc o4 = w4 at *
  have hh4 : w4.heap[b']? = some (.cells cc ty (0, 0)) := by rw [hold b' hlt]; exact hh
  have hS4 : SR E w4 F Γ [.var [c0]] := hS.world hsize (fun q hq => hold q (by
    rcases hq with hq | hq
    · exact hS.low q hq
    · exact live_lt hS hq))
  have hX4 : Ext ([.var [c0]] : List AObj).length w F Γ [.var [c0]] w4 F Γ [.var [c0]] := ⟨hos.1, hos.2.1, hos.2.2, hsize, fun q hq _ => hold q hq, fun _ h => h, fun _ h _ => .inl h, fun _ h _ => h, fun _ _ => rfl, hn⟩
  rw [setCell_putB hh4]
  obtain ⟨F', Γ', H', av, g1, g2, ⟨rfl, rfl⟩, g4, g5⟩ := out_ob (n0 := ([.var [c0]] : List AObj).length) hS4 hn hs rfl rfl hb (ob := .cells (cc.setIfInBounds 0 (.int .i64 c)) ty (0, 0)) (o' := .var [.d (.int .i64 c)])
    ⟨b', _, ty, hb, putB_same hh4 _, by simp [hsz1], fun j av hj => by
      cases j with
      | zero =>
        simp at hj
        subst hj
        have e : (cc.setIfInBounds 0 (.int .i64 c)).getD 0 undef = .int .i64 c := getD_set_self cc 0 _ (by omega)
        rw [e]
        exact ⟨rfl, .d (.int _ _)⟩
      | succ j => simp at hj⟩ (K := fun H' => H' = [.var [.d (.int .i64 c)]]) rfl (v := .bool true) (av := .d (.bool true)) (.d (.bool _))
  exact ⟨_, _, _, F', Γ', rfl, g1, g2, ⟨rfl, rfl⟩, hX4.trans (Nat.le_refl _) g4⟩
/-! ### What errors.As leaves behind, told shorter -/
/-- Of what there was, nothing has turned. -/
structure Later (w w' : World) : Prop where
  size : w.heap.size ≤ w'.heap.size
  hold : ∀ q, q < w.heap.size → w'.heap[q]? = w.heap[q]?
  os : w'.os = w.os
  tape : w'.tape = w.tape
  output : w'.output = w.output
theorem Later.refl (w : World) : Later w w := ⟨Nat.le_refl _, fun _ _ => rfl, rfl, rfl, rfl⟩
theorem Later.alloc {w w' : World} (h : Later w w') (o : Obj) : Later w (w'.alloc o) :=
  ⟨Nat.le_trans h.size (by simp), fun q hq => by rw [alloc_old _ (Nat.lt_of_lt_of_le hq h.size)]; exact h.hold q hq, h.os, h.tape, h.output⟩
theorem setCell_at {w : World} {b o : Nat} {c : Array Value} {ty : TypeId} {fr : Nat × Nat} (h : w.heap[b]? = some (.cells c ty fr)) (v : Value) : w.setCell ⟨b, o, none⟩ v = putB w b (.cells (c.setIfInBounds o v) ty fr) := by
  have hlt : b < w.heap.size := (Array.getElem?_eq_some_iff.1 h).1
  have hb : w.heap[b] = .cells c ty fr := (Array.getElem?_eq_some_iff.1 h).2
  unfold World.setCell putB
  congr 1
  apply Array.ext_getElem?
  intro i
  by_cases hi : i = b
  · subst hi
    rw [Array.getElem?_modify, if_pos rfl, h]
    simp [hlt]
  · rw [Array.getElem?_setIfInBounds_ne (Ne.symm hi)]
    simp [Array.getElem?_modify, Ne.symm hi]
theorem putB_twice {w : World} {b : Nat} {o o' : Obj} : putB (putB w b o) b o' = putB w b o' := by simp [putB]
/-- A variable's cells, all written anew by whole numbers. -/
theorem out_ints {E : Env} {w w4 : World} {F : Nat → Prop} {Γ : List Slot} {cs : List AV} {s : Slot} {b : Nat} {cc : Array Value} {ty : TypeId} {ns : List Int} (hS : SR E w F Γ [.var cs]) (hs : Γ[0]? = some s) (hb : s.b = some b)
    (hL : Later w w4) (hsz : cc.size = ns.length) (hcc : ∀ (j : Nat) n, ns[j]? = some n → cc.getD j undef = .int .i64 n) :
    ∃ F' Γ' H' , SR E (putB w4 b (.cells cc ty (0, 0))) F' Γ' H' ∧ H' = [.var (ns.map fun n => .d (.int .i64 n))] ∧ Ext ([.var cs] : List AObj).length w F Γ [.var cs] (putB w4 b (.cells cc ty (0, 0))) F' Γ' H' := by
  have hn : ([.var cs] : List AObj).length ≤ Γ.length := by rw [hS.len]; exact Nat.le_refl _
  have hlt : b < w.heap.size := by
    obtain ⟨b', c0, ty0, hb', hh, _, _⟩ := hS.obj 0 s _ hs rfl
    obtain rfl : b' = b := by rw [hb] at hb'; exact (Option.some.inj hb').symm
    exact (Array.getElem?_eq_some_iff.1 hh).1
  have hS4 : SR E w4 F Γ [.var cs] := hS.world hL.size (fun q hq => hL.hold q (by
    rcases hq with hq | hq
    · exact hS.low q hq
    · exact live_lt hS hq))
  have hX4 : Ext ([.var cs] : List AObj).length w F Γ [.var cs] w4 F Γ [.var cs] := ⟨hL.os, hL.tape, hL.output, hL.size, fun q hq _ => hL.hold q hq, fun _ h => h, fun _ h _ => .inl h, fun _ h _ => h, fun _ _ => rfl, hn⟩
  obtain ⟨b', c0, ty0, hb', hh, _, _⟩ := hS4.obj 0 s _ hs rfl
  obtain rfl : b' = b := by rw [hb] at hb'; exact (Option.some.inj hb').symm
  obtain ⟨F', Γ', H', av, g1, g2, ⟨rfl, rfl⟩, g4, g5⟩ := out_ob (n0 := ([.var cs] : List AObj).length) hS4 hn hs rfl rfl hb (ob := .cells cc ty (0, 0)) (o' := .var (ns.map fun n => .d (.int .i64 n)))
    ⟨b', _, ty, hb, putB_same hh _, by simp [hsz], fun j av hj => by
      rw [List.getElem?_map] at hj
      cases hn : ns[j]? with
      | none => simp [hn] at hj
      | some n =>
        simp [hn] at hj
        subst hj
        rw [hcc j n hn]
        exact ⟨rfl, .d (.int _ _)⟩⟩ (K := fun H' => H' = [.var (ns.map fun n => .d (.int .i64 n))]) rfl (v := .bool true) (av := .d (.bool true)) (.d (.bool _))
  exact ⟨F', Γ', _, g1, rfl, hX4.trans (Nat.le_refl _) g4⟩
theorem var_cells {E : Env} {w : World} {F : Nat → Prop} {Γ : List Slot} {cs : List AV} {s : Slot} {b : Nat} (hS : SR E w F Γ [.var cs]) (hs : Γ[0]? = some s) (hb : s.b = some b) :
    ∃ cc ty, w.heap[b]? = some (.cells cc ty (0, 0)) ∧ cc.size = cs.length ∧ (∀ o, w.frozen? ⟨b, o, none⟩ = false) ∧ ∀ o, o < cs.length → w.cell? ⟨b, o, none⟩ = some (cc.getD o undef) := by
  obtain ⟨b', cc, ty, hb', hh, hsz, hcells⟩ := hS.obj 0 s _ hs rfl
  obtain rfl : b' = b := by rw [hb] at hb'; exact (Option.some.inj hb').symm
  exact ⟨cc, ty, hh, hsz, fun o => by simp [World.frozen?, hh], fun o ho => by rw [cell_of_heap hh, getD_of (by omega)]⟩
/-- A call that writes one whole number into the variable that it was given. -/
theorem out_as1 {E : Env} {w : World} {F : Nat → Prop} {Γ : List Slot} {g : FuncId} {vs : Array Value} {c0 : AV} {s : Slot} {b : Nat} {c : Int} (hS : SR E w F Γ [.var [c0]]) (hs : Γ[0]? = some s) (hb : s.b = some b)
    (h : ∀ old, w.cell? ⟨b, 0, none⟩ = some old → w.frozen? ⟨b, 0, none⟩ = false → Calls E.P g vs w fun ev w' => ev = .returned (.bool true) ∧ ∃ w4, Later w w4 ∧ w' = w4.setCell ⟨b, 0, none⟩ (.int .i64 c)) :
    Calls E.P g vs w fun e w' => ∃ v r H' F' Γ', e = .returned v ∧ SR E w' F' Γ' H' ∧ RV w' F' Γ' r v ∧ (r = .d (.bool true) ∧ H' = [.var [.d (.int .i64 c)]]) ∧ Ext ([.var [c0]] : List AObj).length w F Γ [.var [c0]] w' F' Γ' H' := by
  obtain ⟨cc, ty, hh, hsz, hf, hc⟩ := var_cells hS hs hb
  have hlt := (Array.getElem?_eq_some_iff.1 hh).1
  refine (h _ (hc 0 (by simp)) (hf 0)).mono ?_
  rintro e w' ⟨rfl, w4, hL, rfl⟩
  rw [setCell_at (by rw [hL.hold b hlt]; exact hh)]
  obtain ⟨F', Γ', H', g1, rfl, g3⟩ := out_ints (ty := ty) (cc := cc.setIfInBounds 0 (.int .i64 c)) (ns := [c]) hS hs hb hL (by simp at hsz; simp [hsz]) (fun j n hj => by
    match j with
    | 0 => simp at hj; subst hj; exact getD_set_self cc 0 _ (by simp at hsz; omega)
    | j + 1 => simp at hj)
  exact ⟨_, _, _, F', Γ', rfl, g1, .d (.bool _), ⟨rfl, rfl⟩, g3⟩
/-- .. two of them. -/
theorem out_as2 {E : Env} {w : World} {F : Nat → Prop} {Γ : List Slot} {g : FuncId} {vs : Array Value} {c0 c1 : AV} {s : Slot} {b : Nat} {c d : Int} (hS : SR E w F Γ [.var [c0, c1]]) (hs : Γ[0]? = some s) (hb : s.b = some b)
    (h : ∀ old old2, w.cell? ⟨b, 0, none⟩ = some old → w.frozen? ⟨b, 0, none⟩ = false → w.cell? ⟨b, 1, none⟩ = some old2 → w.frozen? ⟨b, 1, none⟩ = false →
      Calls E.P g vs w fun ev w' => ev = .returned (.bool true) ∧ ∃ w4, Later w w4 ∧ w' = (w4.setCell ⟨b, 0, none⟩ (.int .i64 c)).setCell ⟨b, 1, none⟩ (.int .i64 d)) :
    Calls E.P g vs w fun e w' => ∃ v r H' F' Γ', e = .returned v ∧ SR E w' F' Γ' H' ∧ RV w' F' Γ' r v ∧ (r = .d (.bool true) ∧ H' = [.var [.d (.int .i64 c), .d (.int .i64 d)]]) ∧ Ext ([.var [c0, c1]] : List AObj).length w F Γ [.var [c0, c1]] w' F' Γ' H' := by
  obtain ⟨cc, ty, hh, hsz, hf, hc⟩ := var_cells hS hs hb
  have hlt := (Array.getElem?_eq_some_iff.1 hh).1
  refine (h _ _ (hc 0 (by simp)) (hf 0) (hc 1 (by simp)) (hf 1)).mono ?_
  rintro e w' ⟨rfl, w4, hL, rfl⟩
  have h4 : w4.heap[b]? = some (.cells cc ty (0, 0)) := by rw [hL.hold b hlt]; exact hh
  rw [setCell_at h4, setCell_at (putB_same h4 _), putB_twice]
  obtain ⟨F', Γ', H', g1, rfl, g3⟩ := out_ints (ty := ty) (cc := (cc.setIfInBounds 0 (.int .i64 c)).setIfInBounds 1 (.int .i64 d)) (ns := [c, d]) hS hs hb hL (by simp at hsz; simp [hsz]) (fun j n hj => by
    match j with
    | 0 =>
      simp at hj; subst hj
      simp at hsz
      simp [Array.getD_eq_getD_getElem?, Array.getElem?_setIfInBounds, hsz]
    | 1 =>
      simp at hj; subst hj
      simp at hsz
      simp [Array.getD_eq_getD_getElem?, Array.getElem?_setIfInBounds, hsz]
    | j + 2 => simp at hj)
  exact ⟨_, _, _, F', Γ', rfl, g1, .d (.bool _), ⟨rfl, rfl⟩, g3⟩
theorem RVL_asF {w : World} {F : Nat → Prop} {Γ : List Slot} {T PT : TypeId} {c d : Int} {vs : Array Value} (h : RVL w F Γ [.d (.iface T (.agg [.int .i64 c, .int .i64 d])), .iface PT (.pvar 0 0)] vs) :
    ∃ s b, Γ[0]? = some s ∧ s.b = some b ∧ vs = #[.iface T (.agg #[.int .i64 c, .int .i64 d]), .iface PT (.pointer (some ⟨b, 0, none⟩))] := by
  obtain ⟨x, y, rfl, h1, h2⟩ := RVL_two h
  have ex : x = .iface T (.agg #[.int .i64 c, .int .i64 d]) := by
    have h3 := h1.of_d
    cases h3 with
    | iface _ _ u hu =>
      cases hu with
      | agg _ vs hs g1 hr =>
        obtain ⟨l⟩ := vs
        match l with
        | [] => simp at hs
        | [_] => simp at hs
        | [p, q] =>
          have e0 := RD_int (hr 0 _ rfl)
          have e1 := RD_int (hr 1 _ rfl)
          simp at e0 e1
          rw [e0, e1]
        | _ :: _ :: _ :: _ => simp at hs
  subst ex
  cases h2 with
  | iface _ _ u hu =>
    cases hu with
    | pvar hs hb => exact ⟨_, _, hs, hb, rfl⟩
/-- What a call has left behind beyond the objects that it was given is dropped. -/
theorem ACalls.cutTo {E : Env} {g : FuncId} {args : List AV} {H H1 : List AObj} {v : AV} (σ : List Nat) (hσ : σ = List.range H.length) (h : ACalls E g args H fun r H' => r = v ∧ ∃ l, H' = H1 ++ l)
    (hs : ∀ l, sbl (rn σ (H1 ++ l).length) σ.length (H1 ++ l) σ H1) (hv : ∀ m, tellL (rn σ m) σ.length [v] [v]) : ACalls E g args H fun r H' => r = v ∧ H' = H1 :=
  h.retell (by
    rintro r H' ⟨rfl, l, rfl⟩
    have hlen : H1.length = σ.length := (sbl_get (hs [])).1
    refine WK.pick σ (hs l) (by rw [hσ]; exact List.nodup_range) (fun i hi => ?_) (hv _) (fun id hid => ?_) (WK.now ⟨_, rfl, rfl, rfl⟩)
    · rw [hσ, List.mem_range] at hi
      rw [List.length_append, hlen, hσ, List.length_range]; omega
    · rw [hσ]; simp [hid])
end Go.Abs
