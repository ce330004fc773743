/-
  A map's entries in whatever order, and a list sorted by keys, step for step: plain law, no program in sight.
-/
import Derived.Test.YtjljjakfebfpfaaDoorAbsT
import Derived.Test.YtjljjakfebfpfaaDoorAbsS
set_option autoImplicit false
set_option linter.unusedVariables false
set_option linter.unusedSimpArgs false
namespace Go.Abs

def addE {α : Type} (sz : Int) (L : List (Int × α)) (k : Int) : Option Int := if (lget L k).isSome = true then some 6 else if sz = L.length then some 7 else none
def addL {α : Type} (sz : Int) (L : List (Int × α)) (k : Int) (v : α) : List (Int × α) := if (lget L k).isSome = true then L else if sz = L.length then L else lput L k v
def setE {α : Type} (L : List (Int × α)) (k : Int) : Option Int := if (lget L k).isSome = true then none else some 5
def setL {α : Type} (L : List (Int × α)) (k : Int) (v : α) : List (Int × α) := if (lget L k).isSome = true then lput L k v else L
theorem ldel_none {α : Type} {L : List (Int × α)} {k : Int} (h : (lget L k).isSome = false) : ldel L k = L := by
  unfold ldel
  have h1 : lget L k = none := by cases hg : lget L k <;> simp_all
  have : L.findIdx? (fun p => k == p.1) = none := by
    rw [List.findIdx?_eq_none_iff]
    intro p hp
    cases hk : (k == p.1) with
    | false => rfl
    | true => exact absurd (List.mem_map.2 ⟨p, hp, (beq_iff_eq.1 hk).symm⟩) (lget_none.1 h1)
  rw [this]
def Sz {α : Type} (xs : List α) : Prop := xs.length ≤ 1000000
/-- The place of a key. -/
def rfind {α : Type} (l : List (Int × α)) (k : Int) : Int := match l.findIdx? (fun p => k == p.1) with
  | some i => (i : Int)
  | none => -1
/-- An entry goes in before the first one that has no lesser id. -/
def ins {α : Type} (l : List (Int × α)) (p : Int × α) : List (Int × α) := l.takeWhile (fun q => decide (q.1 < p.1)) ++ [p] ++ l.dropWhile (fun q => decide (q.1 < p.1))
def raddE {α : Type} (l : List (Int × α)) (size : Int) (k : Int) : Int := if 0 ≤ rfind l k then 6 else if size ≤ l.length then 7 else 0
def raddL {α : Type} (l : List (Int × α)) (size : Int) (p : Int × α) : List (Int × α) := if 0 ≤ rfind l p.1 then l else if size ≤ l.length then l else ins l p
def rsetE {α : Type} (l : List (Int × α)) (k : Int) : Int := match l.findIdx? (fun p => k == p.1) with
  | some _ => 0
  | none => 5
def rsetL {α : Type} (l : List (Int × α)) (k : Int) (v : α) : List (Int × α) := match l.findIdx? (fun p => k == p.1) with
  | some i => l.set i (k, v)
  | none => l
def rdel {α : Type} (l : List (Int × α)) (k : Int) : List (Int × α) := l.filter fun p => p.1 != k
theorem while_at {α : Type} (q : α → Bool) : ∀ (l : List α) (i : Nat), (∀ j x, j < i → l[j]? = some x → q x = true) → i ≤ l.length → (∀ x, l[i]? = some x → q x = false) → l.takeWhile q = l.take i ∧ l.dropWhile q = l.drop i
  | [], i, _, h, _ => by simp
  | a :: l, 0, _, _, h => by
    have := h a rfl
    simp [List.takeWhile_cons, List.dropWhile_cons, this]
  | a :: l, i + 1, h1, h2, h3 => by
    have ha := h1 0 a (by omega) rfl
    obtain ⟨k1, k2⟩ := while_at q l i (fun j x hj hx => h1 (j + 1) x (by omega) (by simpa using hx)) (by simpa using h2) (fun x hx => h3 x (by simpa using hx))
    simp [List.takeWhile_cons, List.dropWhile_cons, ha, k1, k2]
/-- The list is sorted by ids and holds what the table holds. -/
structure Rl {α : Type} (sz : Int) (L w : List (Int × α)) : Prop where
  nd : NoDup L
  perm : L.Perm w
  sorted : w.Pairwise (fun p q => p.1 < q.1)
  room : (L.length : Int) ≤ sz
section
variable {α : Type} {sz : Int} {L w : List (Int × α)} {k : Int} {v : α}

theorem Rl.len (h : Rl sz L w) : L.length = w.length := h.perm.length_eq
theorem Rl.mem (h : Rl sz L w) {p : Int × α} : p ∈ L ↔ p ∈ w := h.perm.mem_iff
theorem Rl.ndw (h : Rl sz L w) : NoDup w := ((h.perm.map (fun p : Int × α => p.1)).nodup_iff).1 (show (L.map (fun p : Int × α => p.1)).Nodup from h.nd)
theorem take_all {β : Type} (q : β → Bool) : ∀ {l : List β} {a : β}, a ∈ l.takeWhile q → q a = true
  | [], a, h => by simp at h
  | b :: l, a, h => by
    rw [List.takeWhile_cons] at h
    split at h
    · rcases List.mem_cons.1 h with rfl | h
      · assumption
      · exact take_all q h
    · simp at h
theorem nodup_of {l : List (Int × α)} (h : NoDup l) : l.Nodup := by
  have := List.pairwise_map.1 (show (l.map (fun p : Int × α => p.1)).Pairwise (· ≠ ·) from h)
  exact this.imp fun hne e => hne (by rw [e])
theorem idx_none : w.findIdx? (fun p => k == p.1) = none ↔ lget w k = none := by
  rw [List.findIdx?_eq_none_iff, lget_none]
  constructor
  · intro h hm
    obtain ⟨p, hp, he⟩ := List.mem_map.1 hm
    have := h p hp
    simp [he] at this
  · intro h p hp
    cases hk : (k == p.1) with
    | false => rfl
    | true => exact absurd (List.mem_map.2 ⟨p, hp, (beq_iff_eq.1 hk).symm⟩) h
theorem Rl.get (h : Rl sz L w) (k : Int) : lget L k = lget w k := by
  cases hL : lget L k with
  | none =>
    symm
    rw [lget_none] at hL ⊢
    intro hm
    exact hL ((h.perm.map (·.1)).mem_iff.2 hm)
  | some u =>
    symm
    rw [lget_mem h.nd] at hL
    rw [lget_mem h.ndw]
    exact h.mem.1 hL
theorem Rl.empty (h : 0 ≤ sz) : Rl (α := α) sz [] [] := ⟨by simp [NoDup], .refl _, by simp, by simpa using h⟩

theorem rfind_neg : rfind w k < 0 ↔ lget w k = none := by
  unfold rfind
  cases hf : w.findIdx? (fun p => k == p.1) with
  | none => simp only; exact ⟨fun _ => idx_none.1 hf, fun _ => by decide⟩
  | some i =>
    simp only
    constructor
    · intro h; omega
    · intro h; rw [idx_none.2 h] at hf; cases hf
theorem rfind_geq : decide (rfind w k ≥ 0) = (lget w k).isSome := by
  cases h : lget w k with
  | none => have := rfind_neg.2 h; simp; omega
  | some u =>
    have : ¬ rfind w k < 0 := fun h' => by rw [rfind_neg.1 h'] at h; cases h
    simp; omega
theorem rfind_at (hw : NoDup w) {u : α} (h : lget w k = some u) : ∃ i : Nat, rfind w k = (i : Int) ∧ i < w.length ∧ w[i]? = some (k, u) := by
  unfold rfind
  cases hf : w.findIdx? (fun p => k == p.1) with
  | none => rw [idx_none.1 hf] at h; cases h
  | some i =>
    obtain ⟨hi, hk, _⟩ := List.findIdx?_eq_some_iff_getElem.1 hf
    refine ⟨i, rfl, hi, ?_⟩
    rw [lget_mem hw] at h
    have hki : w[i].1 = k := (beq_iff_eq.1 hk).symm
    have : w[i] = (k, u) := by
      obtain ⟨j, hj⟩ := List.mem_iff_getElem?.1 h
      have hil : i < (w.map (·.1)).length := by simpa using hi
      have : i = j := (List.getElem?_inj hil hw).1 (by rw [List.getElem?_map, List.getElem?_map, hj, List.getElem?_eq_getElem hi]; simp [hki])
      subst this
      rw [List.getElem?_eq_getElem hi] at hj
      exact Option.some.inj hj
    rw [List.getElem?_eq_getElem hi, this]

theorem ins_perm (l : List (Int × α)) (p : Int × α) : (l ++ [p]).Perm (ins l p) := by
  unfold ins
  have e : l = l.takeWhile (fun q => decide (q.1 < p.1)) ++ l.dropWhile (fun q => decide (q.1 < p.1)) := List.takeWhile_append_dropWhile.symm
  conv => lhs; rw [e]
  rw [List.append_assoc, List.append_assoc]
  exact (List.perm_append_comm).append_left _
theorem drop_ge : ∀ {l : List (Int × α)} {p : Int × α}, l.Pairwise (fun a b => a.1 < b.1) → p.1 ∉ l.map (·.1) → ∀ q ∈ l.dropWhile (fun q => decide (q.1 < p.1)), p.1 < q.1
  | [], p, _, _, q, hq => by simp at hq
  | a :: l, p, hs, hn, q, hq => by
    obtain ⟨h1, h2⟩ := List.pairwise_cons.1 hs
    rw [List.dropWhile_cons] at hq
    split at hq
    · exact drop_ge h2 (fun h => hn (by simp [h])) q hq
    · rename_i ha
      have hap : ¬ a.1 < p.1 := by simpa using ha
      have hne : p.1 ≠ a.1 := fun h => hn (by simp [h])
      rcases List.mem_cons.1 hq with rfl | hq
      · omega
      · have := h1 q hq; omega
theorem ins_sorted {l : List (Int × α)} {p : Int × α} (hs : l.Pairwise (fun a b => a.1 < b.1)) (hn : p.1 ∉ l.map (·.1)) : (ins l p).Pairwise (fun a b => a.1 < b.1) := by
  unfold ins
  rw [List.append_assoc, List.pairwise_append]
  refine ⟨hs.sublist (List.takeWhile_sublist _), ?_, fun a ha b hb => ?_⟩
  · rw [List.singleton_append, List.pairwise_cons]
    exact ⟨fun q hq => drop_ge hs hn q hq, hs.sublist (List.dropWhile_sublist _)⟩
  · have hap : a.1 < p.1 := by
      have := take_all _ ha
      simpa using this
    rw [List.singleton_append] at hb
    rcases List.mem_cons.1 hb with rfl | hb
    · exact hap
    · have := drop_ge hs hn b hb; omega

/-- Adding. -/
theorem Rl.add (h : Rl sz L w) : Rl sz (addL sz L k v) (raddL w sz (k, v)) ∧ (addE sz L k).getD 0 = raddE w sz k := by
  have hg := h.get k
  have hl := h.len
  unfold addL addE raddL raddE
  by_cases c1 : (lget L k).isSome = true
  · have c2 : 0 ≤ rfind w k := by
      have := rfind_geq (w := w) (k := k)
      rw [← hg, c1] at this
      simpa using this
    rw [if_pos c1, if_pos c1, if_pos c2, if_pos c2]
    exact ⟨h, rfl⟩
  · have c0 : lget w k = none := by rw [← hg]; cases hh : lget L k <;> simp_all
    have c2 : ¬ 0 ≤ rfind w k := by have := rfind_neg.2 c0; omega
    have hr := h.room
    rw [if_neg c1, if_neg c1, if_neg c2, if_neg c2]
    by_cases c3 : sz = L.length
    · rw [if_pos c3, if_pos c3, if_pos (by omega), if_pos (by omega)]
      exact ⟨h, rfl⟩
    · rw [if_neg c3, if_neg c3, if_neg (by omega), if_neg (by omega)]
      have hLn : lget L k = none := by rw [hg]; exact c0
      refine ⟨⟨lput_nodup h.nd, ?_, ins_sorted h.sorted (lget_none.1 c0), ?_⟩, rfl⟩
      · rw [lput_new hLn]
        exact (h.perm.append_right _).trans (ins_perm w (k, v))
      · rw [lput_new hLn]; simp; omega
theorem set_perm : ∀ {l : List (Int × α)} {i : Nat} {p : Int × α} (hi : i < l.length), (l.set i p).Perm (p :: l.eraseIdx i)
  | [], i, p, hi => by simp at hi
  | a :: l, 0, p, hi => by simp
  | a :: l, i + 1, p, hi => by
    simp only [List.set_cons_succ, List.eraseIdx_cons_succ]
    exact ((set_perm (by simpa using hi)).cons a).trans (List.Perm.swap p a _)
/-- Lists without repeated ids that hold the same are one another's permutations. -/
theorem perm_of {L w : List (Int × α)} (h1 : NoDup L) (h2 : NoDup w) (h : ∀ p, p ∈ L ↔ p ∈ w) : L.Perm w := by
  have n1 : L.Nodup := nodup_of h1
  have n2 : w.Nodup := nodup_of h2
  exact (List.perm_ext_iff_of_nodup n1 n2).2 h
theorem rset_eq (w : List (Int × α)) (k : Int) (v : α) (h : lget w k ≠ none) : rsetL w k v = lput w k v := by
  unfold rsetL lput
  cases hf : w.findIdx? (fun p => k == p.1) with
  | none => exact absurd (idx_none.1 hf) h
  | some i => rfl
theorem set_sorted {l : List (Int × α)} {k : Int} {v : α} (hs : l.Pairwise (fun a b => a.1 < b.1)) (h : lget l k ≠ none) : (lput l k v).Pairwise (fun a b => a.1 < b.1) := by
  have h1 : (l.map (·.1)).Pairwise (· < ·) := List.pairwise_map.2 hs
  rw [← lput_keys (v := v) h] at h1
  exact List.pairwise_map.1 h1
/-- Replacing. -/
theorem Rl.set (h : Rl sz L w) : Rl sz (setL L k v) (rsetL w k v) ∧ (setE L k).getD 0 = rsetE w k := by
  have hg := h.get k
  unfold setL setE
  by_cases c1 : (lget L k).isSome = true
  · have hne : lget w k ≠ none := by rw [← hg]; intro e; rw [e] at c1; cases c1
    rw [if_pos c1, if_pos c1, rset_eq w k v hne]
    refine ⟨⟨lput_nodup h.nd, perm_of (lput_nodup h.nd) (lput_nodup h.ndw) fun p => ?_, set_sorted h.sorted hne, ?_⟩, ?_⟩
    · rw [lput_mem h.nd, lput_mem h.ndw, h.mem]
    · rw [lput_length, if_pos c1]; exact h.room
    · unfold rsetE
      cases hf : w.findIdx? (fun p => k == p.1) with
      | none => exact absurd (idx_none.1 hf) hne
      | some i => rfl
  · have hn : lget w k = none := by rw [← hg]; cases hh : lget L k <;> simp_all
    rw [if_neg c1, if_neg c1]
    unfold rsetL rsetE
    rw [idx_none.2 hn]
    exact ⟨h, rfl⟩
/-- Removing. -/
theorem Rl.del (h : Rl sz L w) : Rl sz (ldel L k) (rdel w k) := by
  have hs : (rdel w k).Sublist w := List.filter_sublist
  have hn : NoDup (rdel w k) := h.ndw.sublist (hs.map _)
  refine ⟨ldel_nodup h.nd, perm_of (ldel_nodup h.nd) hn fun p => ?_, h.sorted.sublist hs, ?_⟩
  · rw [ldel_mem h.nd, h.mem]
    unfold rdel
    rw [List.mem_filter]
    simp
  · have hr := h.room
    have : (ldel L k).length ≤ L.length := by rw [ldel_length]; split <;> omega
    omega
theorem Rl.ids (h : Rl sz L w) : srt (L.map (·.1)) = w.map (·.1) :=
  srt_unique ((h.perm.map (·.1)).symm) (List.pairwise_map.2 (h.sorted.imp (fun h => Int.le_of_lt h)))
end

/-- Sought from the back, the place of a new key is the same. -/
theorem ins_back {α : Type} {w : List (Int × α)} {p : Int × α} {i : Nat} (hs : w.Pairwise (fun a b => a.1 < b.1)) (hn : p.1 ∉ w.map (·.1)) (hi : i ≤ w.length)
    (hg : ∀ q, w[i]? = some q → p.1 < q.1) (hx : ∀ j q, j + 1 = i → w[j]? = some q → ¬ p.1 < q.1) : ins w p = w.take i ++ [p] ++ w.drop i := by
  obtain ⟨h1, h2⟩ := while_at (fun q : Int × α => decide (q.1 < p.1)) w i (fun j x hj hx' => by
    obtain ⟨m, rfl⟩ : ∃ m, i = m + 1 := ⟨i - 1, by omega⟩
    have hm : m < w.length := by omega
    have e1 := hx m w[m] rfl (List.getElem?_eq_getElem hm)
    have hjl : j < w.length := by omega
    rw [List.getElem?_eq_getElem hjl] at hx'
    obtain rfl := Option.some.inj hx'
    have hle : w[j].1 ≤ w[m].1 := by
      by_cases e : j = m
      · subst e; exact Int.le_refl _
      · exact Int.le_of_lt (List.pairwise_iff_getElem.1 hs j m hjl hm (by omega))
    have hne : p.1 ≠ w[j].1 := fun e => hn (List.mem_map.2 ⟨w[j], List.getElem_mem hjl, e.symm⟩)
    exact decide_eq_true (by omega)) hi (fun x hx' => decide_eq_false (by have := hg x hx'; omega))
  rw [ins, h1, h2]
/-- A list whose keys stand in its own elements. -/
def kv {α : Type} (f : α → Int) (l : List α) : List (Int × α) := l.map fun c => (f c, c)
theorem kv_length {α : Type} (f : α → Int) (l : List α) : (kv f l).length = l.length := by simp [kv]
theorem kv_keys {α : Type} (f : α → Int) (l : List α) : (kv f l).map (·.1) = l.map f := by simp [kv]
def insK {α : Type} (f : α → Int) (l : List α) (c : α) : List α := l.takeWhile (fun q => decide (f q < f c)) ++ [c] ++ l.dropWhile (fun q => decide (f q < f c))
theorem map_takeWhile' {α β : Type} (f : α → β) (p : β → Bool) : ∀ l : List α, (l.map f).takeWhile p = (l.takeWhile (p ∘ f)).map f
  | [] => rfl
  | a :: l => by
    rw [List.map_cons, List.takeWhile_cons, List.takeWhile_cons, map_takeWhile' f p l]
    simp only [Function.comp]
    split <;> simp_all
theorem map_dropWhile' {α β : Type} (f : α → β) (p : β → Bool) : ∀ l : List α, (l.map f).dropWhile p = (l.dropWhile (p ∘ f)).map f
  | [] => rfl
  | a :: l => by
    rw [List.map_cons, List.dropWhile_cons, List.dropWhile_cons, map_dropWhile' f p l]
    simp only [Function.comp]
    split <;> simp_all
theorem ins_kv {α : Type} (f : α → Int) (l : List α) (c : α) : ins (kv f l) (f c, c) = kv f (insK f l c) := by
  unfold ins kv insK
  rw [map_takeWhile', map_dropWhile']
  simp [Function.comp_def]
def raddK {α : Type} (f : α → Int) (l : List α) (sz : Int) (c : α) : List α := if 0 ≤ rfind (kv f l) (f c) then l else if sz ≤ l.length then l else insK f l c
theorem raddL_kv {α : Type} (f : α → Int) (l : List α) (sz : Int) (c : α) : raddL (kv f l) sz (f c, c) = kv f (raddK f l sz c) := by
  unfold raddL raddK
  rw [kv_length]
  split
  · rfl
  · split
    · rfl
    · exact ins_kv f l c
theorem raddK_length {α : Type} (f : α → Int) (l : List α) (sz : Int) (c : α) : (raddK f l sz c).length ≤ l.length + 1 := by
  have h := congrArg List.length (raddL_kv f l sz c)
  rw [kv_length] at h
  rw [← h]
  unfold raddL
  split
  · rw [kv_length]; omega
  · split
    · rw [kv_length]; omega
    · have := (ins_perm (kv f l) (f c, c)).length_eq
      simp only [List.length_append, List.length_singleton, kv_length] at this
      omega

/-! ### Arguments that say more than is asked -/
def dsOk : List D → List D → Prop
  | [], [] => True
  | x :: l, y :: m => (x = y ∨ (y = .nils ∧ ∃ sz, x = .slice sz [])) ∧ dsOk l m
  | _, _ => False
def avOk : AV → AV → Prop
  | .d (.agg ds), .agg cs => argsOk ds cs
  | .d (.agg ds), .d (.agg es) => dsOk ds es
  | .d x, a => argOk x a
  | x, a => x = a
def avsOk : List AV → List AV → Prop
  | [], [] => True
  | x :: l, a :: m => avOk x a ∧ avsOk l m
  | _, _ => False
theorem dsOk_get : ∀ {l m : List D}, dsOk l m → l.length = m.length ∧ ∀ (j : Nat) x, l[j]? = some x → ∃ y, m[j]? = some y ∧ (x = y ∨ (y = .nils ∧ ∃ sz, x = .slice sz []))
  | [], [], _ => ⟨rfl, fun j x h => by simp at h⟩
  | x :: l, y :: m, h => by
    obtain ⟨h1, h2⟩ := h
    obtain ⟨h3, h4⟩ := dsOk_get h2
    refine ⟨by simp [h3], fun j z hz => ?_⟩
    cases j with
    | zero => simp at hz; subst hz; exact ⟨y, rfl, h1⟩
    | succ j => simpa using h4 j z (by simpa using hz)
  | [], _ :: _, h => h.elim
  | _ :: _, [], h => h.elim
theorem avOk_ok {x a : AV} (h : avOk x a) {w : World} {F : Nat → Prop} {Γ : List Slot} {v : Value} (hv : RV w F Γ a v) : RV w F Γ x v := by
  unfold avOk at h
  split at h
  · rename_i ds cs
    obtain ⟨h1, h2⟩ := argsOk_ok h
    cases hv with
    | agg _ vs hs h3 hr =>
      refine .d (.agg _ vs (by rw [hs, h1]) h3 fun j d hd => ?_)
      obtain ⟨a, ha, hk⟩ := h2 j d hd
      exact (argOk_ok hk (hr j a ha)).of_d
  · rename_i ds es
    obtain ⟨h1, h2⟩ := dsOk_get h
    have hd := hv.of_d
    cases hd with
    | agg _ vs hs h3 hr =>
      refine .d (.agg _ vs (by rw [hs, h1]) h3 fun j d hd => ?_)
      obtain ⟨y, hy, hk⟩ := h2 j d hd
      rcases hk with rfl | ⟨rfl, sz, rfl⟩
      · exact hr j _ hy
      · exact nils_slice sz (hr j _ hy)
  · exact argOk_ok h hv
  · subst h; exact hv
theorem avsOk_get : ∀ {l m : List AV}, avsOk l m → l.length = m.length ∧ ∀ (j : Nat) x, l[j]? = some x → ∃ y, m[j]? = some y ∧ avOk x y
  | [], [], _ => ⟨rfl, fun j x h => by simp at h⟩
  | x :: l, y :: m, h => by
    obtain ⟨h1, h2⟩ := h
    obtain ⟨h3, h4⟩ := avsOk_get h2
    refine ⟨by simp [h3], fun j z hz => ?_⟩
    cases j with
    | zero => simp at hz; subst hz; exact ⟨y, rfl, h1⟩
    | succ j => simpa using h4 j z (by simpa using hz)
  | [], _ :: _, h => h.elim
  | _ :: _, [], h => h.elim
theorem ACalls.argv {E : Env} {g : FuncId} {xs bs : List AV} {H : List AObj} {K : AV → List AObj → Prop} (h : ACalls E g xs H K) (ha : avsOk xs bs) : ACalls E g bs H K := by
  obtain ⟨h1, h2⟩ := avsOk_get ha
  refine ⟨h.1, fun w F Γ vs hS hV => h.2 w F Γ vs hS ⟨by rw [hV.1, h1], fun j av hj => ?_⟩⟩
  obtain ⟨y, hy, hk⟩ := h2 j av hj
  exact avOk_ok hk (hV.2 j y hy)
/-- An own row, told as plain data ahead of a call. -/
theorem ACalls.thaw {E : Env} {g : FuncId} {bs : List AV} {H : List AObj} {K : AV → List AObj → Prop} (id : Nat) {ty : TypeId} {sz : Nat} {xs : List (List D)} (ho : H[id]? = some (.arr ty sz xs))
    (h : ACalls E g (AV.frzL id sz xs bs) ((H.set id .none).map (AObj.frz id sz xs)) K) : ACalls E g bs H K := by
  refine ⟨h.1, fun w F Γ vs hS hV => ?_⟩
  obtain ⟨F', Γ', k1, k2, k3, k4⟩ := Wk.freeze (E := E) (n0 := H.length) id (t := bs) (ds := []) ho w F Γ vs [] hS hV ⟨rfl, fun i id hi => by simp at hi⟩ (by rw [hS.len]; exact Nat.le_refl _)
  refine (h.2 w F' Γ' vs k1 k2).mono ?_
  rintro e w' ⟨v, r, H', F2, Γ2, rfl, h2, h3, h4, h5⟩
  exact ⟨v, r, H', F2, Γ2, rfl, h2, h3, h4, k4.trans (Nat.le_refl _) (by simpa using h5)⟩
end Go.Abs
