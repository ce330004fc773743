/-
  slices.Sort at whole numbers, by the library's own contract: an own row of ints becomes its sorted row.
  A map's entries in whatever order, and a list sorted by keys, step for step: plain law, no program in sight.
  A variable's nil slice, told as an own row without elements.
  A variable's nil slice, told as a slice of plain data without elements.
  The walk's rules as one set of simp's: every walk uses them under one name.
-/
import Derived.Test.YtmeicgbddgeeoaaGreatDoorA3
import Derived.Shelf.SortG.Plain
import Derived.Shelf.SortG.SortNone
import Derived.Sort.OwnSortedInts
section
set_option autoImplicit false
set_option linter.unusedVariables false
set_option linter.unusedSimpArgs false
namespace Go.Abs
open Go.Shelf Go.Sort
def srt (ks : List Int) : List Int := ks.mergeSort fun x y => decide (x ≤ y)
theorem srt_perm (ks : List Int) : (srt ks).Perm ks := List.mergeSort_perm _ _
theorem srt_sorted (ks : List Int) : (srt ks).Pairwise (· ≤ ·) := by
 have := List.pairwise_mergeSort (le := fun x y : Int => decide (x ≤ y)) (fun a b c h1 h2 => by simp at *; omega) (fun a b => by simp; omega) ks
 exact this.imp (by simp)
theorem srt_unique {ks ls : List Int} (h : ls.Perm ks) (hs : ls.Pairwise (· ≤ ·)) : srt ks = ls :=
 List.Perm.eq_of_pairwise (le := (· ≤ ·)) (fun a b _ _ h1 h2 => by omega) (srt_sorted ks) hs ((srt_perm ks).trans h.symm)
end Go.Abs
end
section
set_option autoImplicit false
set_option linter.unusedVariables false
set_option linter.unusedSimpArgs false
namespace Go.Abs
def addE {α : Type} (sz : Int) (L : List (Int × α)) (k : Int) : Option Int := if (lget L k).isSome = true then some 6 else if sz = L.length then some 7 else none
def addL {α : Type} (sz : Int) (L : List (Int × α)) (k : Int) (v : α) : List (Int × α) := if (lget L k).isSome = true then L else if sz = L.length then L else lput L k v
def setE {α : Type} (L : List (Int × α)) (k : Int) : Option Int := if (lget L k).isSome = true then none else some 5
def setL {α : Type} (L : List (Int × α)) (k : Int) (v : α) : List (Int × α) := if (lget L k).isSome = true then lput L k v else L
def Sz {α : Type} (xs : List α) : Prop := xs.length ≤ 1000000
def rfind {α : Type} (l : List (Int × α)) (k : Int) : Int := match l.findIdx? (fun p => k == p.1) with
 | some i => (i : Int)
 | none => -1
def ins {α : Type} (l : List (Int × α)) (p : Int × α) : List (Int × α) := l.takeWhile (fun q => decide (q.1 < p.1)) ++ [p] ++ l.dropWhile (fun q => decide (q.1 < p.1))
def raddE {α : Type} (l : List (Int × α)) (size : Int) (k : Int) : Int := if 0 ≤ rfind l k then 6 else if size ≤ l.length then 7 else 0
def raddL {α : Type} (l : List (Int × α)) (size : Int) (p : Int × α) : List (Int × α) := if 0 ≤ rfind l p.1 then l else if size ≤ l.length then l else ins l p
def rsetE {α : Type} (l : List (Int × α)) (k : Int) : Int := match l.findIdx? (fun p => k == p.1) with
 | some _ => 0
 | none => 5
def rsetL {α : Type} (l : List (Int × α)) (k : Int) (v : α) : List (Int × α) := match l.findIdx? (fun p => k == p.1) with
 | some i => l.set i (k, v)
 | none => l
theorem while_at {α : Type} (q : α → Bool) : ∀ (l : List α) (i : Nat), (∀ j x, j < i → l[j]? = some x → q x = true) → i ≤ l.length → (∀ x, l[i]? = some x → q x = false) → l.takeWhile q = l.take i ∧ l.dropWhile q = l.drop i
 | [], i, _, h, _ => by simp
 | a :: l, 0, _, _, h => by
  have := h a rfl
  simp [List.takeWhile_cons, List.dropWhile_cons, this]
 | a :: l, i + 1, h1, h2, h3 => by
  have ha := h1 0 a (by omega) rfl
  obtain ⟨k1, k2⟩ := while_at q l i (fun j x hj hx => h1 (j + 1) x (by omega) (by simpa using hx)) (by simpa using h2) (fun x hx => h3 x (by simpa using hx))
  simp [List.takeWhile_cons, List.dropWhile_cons, ha, k1, k2]
structure Rl {α : Type} (sz : Int) (L w : List (Int × α)) : Prop where
 nd : NoDup L
 perm : L.Perm w
 sorted : w.Pairwise (fun p q => p.1 < q.1)
 room : (L.length : Int) ≤ sz
section
variable {α : Type} {sz : Int} {L w : List (Int × α)} {k : Int} {v : α}
theorem Rl.len (h : Rl sz L w) : L.length = w.length := h.perm.length_eq
theorem Rl.mem (h : Rl sz L w) {p : Int × α} : p ∈ L ↔ p ∈ w := h.perm.mem_iff
theorem Rl.ndw (h : Rl sz L w) : NoDup w := ((h.perm.map (fun p : Int × α => p.1)).nodup_iff).1 (show (L.map (fun p : Int × α => p.1)).Nodup from h.nd)
theorem take_all {β : Type} (q : β → Bool) : ∀ {l : List β} {a : β}, a ∈ l.takeWhile q → q a = true
 | [], a, h => by simp at h
 | b :: l, a, h => by
  rw [List.takeWhile_cons] at h
  split at h
  ·rcases List.mem_cons.1 h with rfl | h
   ·assumption
   ·exact take_all q h
  ·simp at h
theorem nodup_of {l : List (Int × α)} (h : NoDup l) : l.Nodup := by
 have := List.pairwise_map.1 (show (l.map (fun p : Int × α => p.1)).Pairwise (· ≠ ·) from h)
 exact this.imp fun hne e => hne (by rw [e])
theorem idx_none : w.findIdx? (fun p => k == p.1) = none ↔ lget w k = none := by
 rw [List.findIdx?_eq_none_iff, lget_none]
 constructor
 ·intro h hm
  obtain ⟨p, hp, he⟩ := List.mem_map.1 hm
  have := h p hp
  simp [he] at this
 ·intro h p hp
  cases hk : (k == p.1) with
  | false => rfl
  | true => exact absurd (List.mem_map.2 ⟨p, hp, (beq_iff_eq.1 hk).symm⟩) h
theorem Rl.get (h : Rl sz L w) (k : Int) : lget L k = lget w k := by
 cases hL : lget L k with
 | none =>
  symm
  rw [lget_none] at hL ⊢
  intro hm
  exact hL ((h.perm.map (·.1)).mem_iff.2 hm)
 | some u =>
  symm
  rw [lget_mem h.nd] at hL
  rw [lget_mem h.ndw]
  exact h.mem.1 hL
theorem Rl.empty (h : 0 ≤ sz) : Rl (α := α) sz [] [] := ⟨by simp [NoDup], .refl _, by simp, by simpa using h⟩
theorem rfind_neg : rfind w k < 0 ↔ lget w k = none := by
 unfold rfind
 cases hf : w.findIdx? (fun p => k == p.1) with
 | none => simp only; exact ⟨fun _ => idx_none.1 hf, fun _ => by decide⟩
 | some i =>
  simp only
  constructor
  ·intro h; omega
  ·intro h; rw [idx_none.2 h] at hf; cases hf
theorem rfind_geq : decide (rfind w k ≥ 0) = (lget w k).isSome := by
 cases h : lget w k with
 | none => have := rfind_neg.2 h; simp; omega
 | some u =>
  have : ¬ rfind w k < 0 := fun h' => by rw [rfind_neg.1 h'] at h; cases h
  simp; omega
theorem ins_perm (l : List (Int × α)) (p : Int × α) : (l ++ [p]).Perm (ins l p) := by
 unfold ins
 have e : l = l.takeWhile (fun q => decide (q.1 < p.1)) ++ l.dropWhile (fun q => decide (q.1 < p.1)) := List.takeWhile_append_dropWhile.symm
 conv => lhs; rw [e]
 rw [List.append_assoc, List.append_assoc]
 exact (List.perm_append_comm).append_left _
theorem drop_ge : ∀ {l : List (Int × α)} {p : Int × α}, l.Pairwise (fun a b => a.1 < b.1) → p.1 ∉ l.map (·.1) → ∀ q ∈ l.dropWhile (fun q => decide (q.1 < p.1)), p.1 < q.1
 | [], p, _, _, q, hq => by simp at hq
 | a :: l, p, hs, hn, q, hq => by
  obtain ⟨h1, h2⟩ := List.pairwise_cons.1 hs
  rw [List.dropWhile_cons] at hq
  split at hq
  ·exact drop_ge h2 (fun h => hn (by simp [h])) q hq
  ·rename_i ha
   have hap : ¬ a.1 < p.1 := by simpa using ha
   have hne : p.1 ≠ a.1 := fun h => hn (by simp [h])
   rcases List.mem_cons.1 hq with rfl | hq
   ·omega
   ·have := h1 q hq; omega
theorem ins_sorted {l : List (Int × α)} {p : Int × α} (hs : l.Pairwise (fun a b => a.1 < b.1)) (hn : p.1 ∉ l.map (·.1)) : (ins l p).Pairwise (fun a b => a.1 < b.1) := by
 unfold ins
 rw [List.append_assoc, List.pairwise_append]
 refine ⟨hs.sublist (List.takeWhile_sublist _), ?_, fun a ha b hb => ?_⟩
 ·rw [List.singleton_append, List.pairwise_cons]
  exact ⟨fun q hq => drop_ge hs hn q hq, hs.sublist (List.dropWhile_sublist _)⟩
 ·have hap : a.1 < p.1 := by
   have := take_all _ ha
   simpa using this
  rw [List.singleton_append] at hb
  rcases List.mem_cons.1 hb with rfl | hb
  ·exact hap
  ·have := drop_ge hs hn b hb; omega
theorem Rl.add (h : Rl sz L w) : Rl sz (addL sz L k v) (raddL w sz (k, v)) ∧ (addE sz L k).getD 0 = raddE w sz k := by
 have hg := h.get k
 have hl := h.len
 unfold addL addE raddL raddE
 by_cases c1 : (lget L k).isSome = true
 ·have c2 : 0 ≤ rfind w k := by
   have := rfind_geq (w := w) (k := k)
   rw [← hg, c1] at this
   simpa using this
  rw [if_pos c1, if_pos c1, if_pos c2, if_pos c2]
  exact ⟨h, rfl⟩
 ·have c0 : lget w k = none := by rw [← hg]; cases hh : lget L k <;> simp_all
  have c2 : ¬ 0 ≤ rfind w k := by have := rfind_neg.2 c0; omega
  have hr := h.room
  rw [if_neg c1, if_neg c1, if_neg c2, if_neg c2]
  by_cases c3 : sz = L.length
  ·rw [if_pos c3, if_pos c3, if_pos (by omega), if_pos (by omega)]
   exact ⟨h, rfl⟩
  ·rw [if_neg c3, if_neg c3, if_neg (by omega), if_neg (by omega)]
   have hLn : lget L k = none := by rw [hg]; exact c0
   refine ⟨⟨lput_nodup h.nd, ?_, ins_sorted h.sorted (lget_none.1 c0), ?_⟩, rfl⟩
   ·rw [lput_new hLn]
    exact (h.perm.append_right _).trans (ins_perm w (k, v))
   ·rw [lput_new hLn]; simp; omega
theorem perm_of {L w : List (Int × α)} (h1 : NoDup L) (h2 : NoDup w) (h : ∀ p, p ∈ L ↔ p ∈ w) : L.Perm w := by
 have n1 : L.Nodup := nodup_of h1
 have n2 : w.Nodup := nodup_of h2
 exact (List.perm_ext_iff_of_nodup n1 n2).2 h
theorem rset_eq (w : List (Int × α)) (k : Int) (v : α) (h : lget w k ≠ none) : rsetL w k v = lput w k v := by
 unfold rsetL lput
 cases hf : w.findIdx? (fun p => k == p.1) with
 | none => exact absurd (idx_none.1 hf) h
 | some i => rfl
theorem set_sorted {l : List (Int × α)} {k : Int} {v : α} (hs : l.Pairwise (fun a b => a.1 < b.1)) (h : lget l k ≠ none) : (lput l k v).Pairwise (fun a b => a.1 < b.1) := by
 have h1 : (l.map (·.1)).Pairwise (· < ·) := List.pairwise_map.2 hs
 rw [← lput_keys (v := v) h] at h1
 exact List.pairwise_map.1 h1
theorem Rl.set (h : Rl sz L w) : Rl sz (setL L k v) (rsetL w k v) ∧ (setE L k).getD 0 = rsetE w k := by
 have hg := h.get k
 unfold setL setE
 by_cases c1 : (lget L k).isSome = true
 ·have hne : lget w k ≠ none := by rw [← hg]; intro e; rw [e] at c1; cases c1
  rw [if_pos c1, if_pos c1, rset_eq w k v hne]
  refine ⟨⟨lput_nodup h.nd, perm_of (lput_nodup h.nd) (lput_nodup h.ndw) fun p => ?_, set_sorted h.sorted hne, ?_⟩, ?_⟩
  ·rw [lput_mem h.nd, lput_mem h.ndw, h.mem]
  ·rw [lput_length, if_pos c1]; exact h.room
  ·unfold rsetE
   cases hf : w.findIdx? (fun p => k == p.1) with
   | none => exact absurd (idx_none.1 hf) hne
   | some i => rfl
 ·have hn : lget w k = none := by rw [← hg]; cases hh : lget L k <;> simp_all
  rw [if_neg c1, if_neg c1]
  unfold rsetL rsetE
  rw [idx_none.2 hn]
  exact ⟨h, rfl⟩
theorem Rl.ids (h : Rl sz L w) : srt (L.map (·.1)) = w.map (·.1) :=
 srt_unique ((h.perm.map (·.1)).symm) (List.pairwise_map.2 (h.sorted.imp (fun h => Int.le_of_lt h)))
end
theorem ins_back {α : Type} {w : List (Int × α)} {p : Int × α} {i : Nat} (hs : w.Pairwise (fun a b => a.1 < b.1)) (hn : p.1 ∉ w.map (·.1)) (hi : i ≤ w.length)
  (hg : ∀ q, w[i]? = some q → p.1 < q.1) (hx : ∀ j q, j + 1 = i → w[j]? = some q → ¬ p.1 < q.1) : ins w p = w.take i ++ [p] ++ w.drop i := by
 obtain ⟨h1, h2⟩ := while_at (fun q : Int × α => decide (q.1 < p.1)) w i (fun j x hj hx' => by
  obtain ⟨m, rfl⟩ : ∃ m, i = m + 1 := ⟨i - 1, by omega⟩
  have hm : m < w.length := by omega
  have e1 := hx m w[m] rfl (List.getElem?_eq_getElem hm)
  have hjl : j < w.length := by omega
  rw [List.getElem?_eq_getElem hjl] at hx'
  obtain rfl := Option.some.inj hx'
  have hle : w[j].1 ≤ w[m].1 := by
   by_cases e : j = m
   ·subst e; exact Int.le_refl _
   ·exact Int.le_of_lt (List.pairwise_iff_getElem.1 hs j m hjl hm (by omega))
  have hne : p.1 ≠ w[j].1 := fun e => hn (List.mem_map.2 ⟨w[j], List.getElem_mem hjl, e.symm⟩)
  exact decide_eq_true (by omega)) hi (fun x hx' => decide_eq_false (by have := hg x hx'; omega))
 rw [ins, h1, h2]
def kv {α : Type} (f : α → Int) (l : List α) : List (Int × α) := l.map fun c => (f c, c)
theorem kv_length {α : Type} (f : α → Int) (l : List α) : (kv f l).length = l.length := by simp [kv]
theorem kv_keys {α : Type} (f : α → Int) (l : List α) : (kv f l).map (·.1) = l.map f := by simp [kv]
def insK {α : Type} (f : α → Int) (l : List α) (c : α) : List α := l.takeWhile (fun q => decide (f q < f c)) ++ [c] ++ l.dropWhile (fun q => decide (f q < f c))
theorem map_takeWhile' {α β : Type} (f : α → β) (p : β → Bool) : ∀ l : List α, (l.map f).takeWhile p = (l.takeWhile (p ∘ f)).map f
 | [] => rfl
 | a :: l => by
  rw [List.map_cons, List.takeWhile_cons, List.takeWhile_cons, map_takeWhile' f p l]
  simp only [Function.comp]
  split <;> simp_all
theorem map_dropWhile' {α β : Type} (f : α → β) (p : β → Bool) : ∀ l : List α, (l.map f).dropWhile p = (l.dropWhile (p ∘ f)).map f
 | [] => rfl
 | a :: l => by
  rw [List.map_cons, List.dropWhile_cons, List.dropWhile_cons, map_dropWhile' f p l]
  simp only [Function.comp]
  split <;> simp_all
theorem ins_kv {α : Type} (f : α → Int) (l : List α) (c : α) : ins (kv f l) (f c, c) = kv f (insK f l c) := by
 unfold ins kv insK
 rw [map_takeWhile', map_dropWhile']
 simp [Function.comp_def]
def raddK {α : Type} (f : α → Int) (l : List α) (sz : Int) (c : α) : List α := if 0 ≤ rfind (kv f l) (f c) then l else if sz ≤ l.length then l else insK f l c
theorem raddL_kv {α : Type} (f : α → Int) (l : List α) (sz : Int) (c : α) : raddL (kv f l) sz (f c, c) = kv f (raddK f l sz c) := by
 unfold raddL raddK
 rw [kv_length]
 split
 ·rfl
 ·split
  ·rfl
  ·exact ins_kv f l c
/-! ### Arguments that say more than is asked -/
def dsOk : List D → List D → Prop
 | [], [] => True
 | x :: l, y :: m => (x = y ∨ (y = .nils ∧ ∃ sz, x = .slice sz [])) ∧ dsOk l m
 | _, _ => False
def avOk : AV → AV → Prop
 | .d (.agg ds), .agg cs => argsOk ds cs
 | .d (.agg ds), .d (.agg es) => dsOk ds es
 | .d x, a => argOk x a
 | x, a => x = a
def avsOk : List AV → List AV → Prop
 | [], [] => True
 | x :: l, a :: m => avOk x a ∧ avsOk l m
 | _, _ => False
theorem dsOk_get : ∀ {l m : List D}, dsOk l m → l.length = m.length ∧ ∀ (j : Nat) x, l[j]? = some x → ∃ y, m[j]? = some y ∧ (x = y ∨ (y = .nils ∧ ∃ sz, x = .slice sz []))
 | [], [], _ => ⟨rfl, fun j x h => by simp at h⟩
 | x :: l, y :: m, h => by
  obtain ⟨h1, h2⟩ := h
  obtain ⟨h3, h4⟩ := dsOk_get h2
  refine ⟨by simp [h3], fun j z hz => ?_⟩
  cases j with
  | zero => simp at hz; subst hz; exact ⟨y, rfl, h1⟩
  | succ j => simpa using h4 j z (by simpa using hz)
 | [], _ :: _, h => h.elim
 | _ :: _, [], h => h.elim
theorem avOk_ok {x a : AV} (h : avOk x a) {w : World} {F : Nat → Prop} {Γ : List Slot} {v : Value} (hv : RV w F Γ a v) : RV w F Γ x v := by
 unfold avOk at h
 split at h
 ·rename_i ds cs
  obtain ⟨h1, h2⟩ := argsOk_ok h
  cases hv with
  | agg _ vs hs h3 hr =>
   refine .d (.agg _ vs (by rw [hs, h1]) h3 fun j d hd => ?_)
   obtain ⟨a, ha, hk⟩ := h2 j d hd
   exact (argOk_ok hk (hr j a ha)).of_d
 ·rename_i ds es
  obtain ⟨h1, h2⟩ := dsOk_get h
  have hd := hv.of_d
  cases hd with
  | agg _ vs hs h3 hr =>
   refine .d (.agg _ vs (by rw [hs, h1]) h3 fun j d hd => ?_)
   obtain ⟨y, hy, hk⟩ := h2 j d hd
   rcases hk with rfl | ⟨rfl, sz, rfl⟩
   ·exact hr j _ hy
   ·exact nils_slice sz (hr j _ hy)
 ·exact argOk_ok h hv
 ·subst h; exact hv
theorem avsOk_get : ∀ {l m : List AV}, avsOk l m → l.length = m.length ∧ ∀ (j : Nat) x, l[j]? = some x → ∃ y, m[j]? = some y ∧ avOk x y
 | [], [], _ => ⟨rfl, fun j x h => by simp at h⟩
 | x :: l, y :: m, h => by
  obtain ⟨h1, h2⟩ := h
  obtain ⟨h3, h4⟩ := avsOk_get h2
  refine ⟨by simp [h3], fun j z hz => ?_⟩
  cases j with
  | zero => simp at hz; subst hz; exact ⟨y, rfl, h1⟩
  | succ j => simpa using h4 j z (by simpa using hz)
 | [], _ :: _, h => h.elim
 | _ :: _, [], h => h.elim
theorem ACalls.argv {E : Env} {g : FuncId} {xs bs : List AV} {H : List AObj} {K : AV → List AObj → Prop} (h : ACalls E g xs H K) (ha : avsOk xs bs) : ACalls E g bs H K := by
 obtain ⟨h1, h2⟩ := avsOk_get ha
 refine ⟨h.1, fun w F Γ vs hS hV => h.2 w F Γ vs hS ⟨by rw [hV.1, h1], fun j av hj => ?_⟩⟩
 obtain ⟨y, hy, hk⟩ := h2 j av hj
 exact avOk_ok hk (hV.2 j y hy)
end Go.Abs
end
section
set_option autoImplicit false
set_option linter.unusedVariables false
set_option linter.unusedSimpArgs false
namespace Go.Abs
section
variable {E : Env} {n0 : Nat} {t : List AV} {H : List AObj} {ds : List Nat}
theorem Wk.nilfld (id j : Nat) (ty : TypeId) (sz : Nat) {l : List AV} (ho : H[id]? = some (.var l)) (hj : l[j]? = some (.d .nils)) :
  Wk E n0 t H ds t (H.set id (.var (l.set j (.sfull H.length))) ++ [.arr ty sz []]) ds := fun w F Γ tm df hS hT hD hn => by
 let s : Slot := ⟨none, sz, 0, 0⟩
 have hS1 : SR E w F (Γ ++ [s]) (H ++ [.arr ty sz []]) := hS.push ⟨rfl, rfl, by simp [s], by simp, .inl ⟨rfl, rfl⟩⟩ (fun b hb => by simp [s] at hb)
 have hup : ∀ (id : Nat) s', Γ[id]? = some s' → (Γ ++ [s])[id]? = some s' := pre_push Γ s
 have hlt : id < H.length := (List.getElem?_eq_some_iff.1 ho).1
 have hlt' : id < Γ.length := by rw [hS.len]; exact hlt
 obtain ⟨si, hsi⟩ : ∃ si, Γ[id]? = some si := ⟨_, List.getElem?_eq_getElem hlt'⟩
 have ho1 : (H ++ [AObj.arr ty sz []])[id]? = some (.var l) := by rw [List.getElem?_append_left hlt]; exact ho
 obtain ⟨b, c, vty, e1, e2, e3, e4⟩ := hS.obj id si _ hsi ho
 have hro : RO w F (Γ ++ [s]) si (.var (l.set j (.sfull H.length))) := by
  refine ⟨b, c, vty, e1, e2, by simpa using e3, fun k av hk => ?_⟩
  rcases set_get hk with ⟨rfl, rfl, _⟩ | ⟨_, h2⟩
  ·obtain ⟨g1, g2⟩ := e4 _ _ hj
   refine ⟨g1, ?_⟩
   have h0 := g2.of_d
   generalize c.getD j undef = u at h0
   cases h0
   exact .sfull (s := s) (by rw [← hS.len]; exact push_get Γ s) (fun b hb => by simp [s] at hb)
  ·obtain ⟨g1, g2⟩ := e4 k av h2
   exact ⟨g1, g2.mono (fun _ h => h) (fun _ _ => rfl) hup⟩
 have hS' := sr_retell hS1 (hup id si hsi) ho1 rfl hro
 rw [List.set_append_left _ _ hlt] at hS'
 refine ⟨F, Γ ++ [s], hS', ⟨hT.1, fun k av hk => (hT.2 k av hk).mono (fun _ h => h) (fun _ _ => rfl) hup⟩, hD.mono hup, rfl, rfl, rfl, Nat.le_refl _, fun _ _ _ => rfl, fun _ h => h, fun _ h _ => .inl h, ?_, ?_, by simp; omega⟩
 ·intro b' hb' _
  rw [← List.set_append_left _ _ hlt] at hb'
  rcases live_push hS.len (live_retell ho1 rfl hb') with h | h
  ·exact h
  ·simp [s] at h
 ·intro id hid
  rw [List.getElem?_append_left (by omega)]
theorem WK.nilfld {K : K3} (id j : Nat) (ty : TypeId) (sz : Nat) {l : List AV} (ho : H[id]? = some (.var l)) (hj : l[j]? = some (.d .nils))
  (k : WK E n0 K t (H.set id (.var (l.set j (.sfull H.length))) ++ [.arr ty sz []]) ds) : WK E n0 K t H ds := WK.step (Wk.nilfld id j ty sz ho hj) k
end
/-! ### Calls that only lay new blocks -/
theorem rd_ifaceI {w : World} {F : Nat → Prop} {T : TypeId} {k : IntKind} {c : Int} {x : Value} (h : RD w F (.iface T (.int k c)) x) : x = .iface T (.int k c) := by
 cases h with
 | iface _ _ u hu => cases hu; rfl
theorem rd_ifaceF {w : World} {F : Nat → Prop} {T : TypeId} {c d : Int} {x : Value} (h3 : RD w F (.iface T (.agg [.int .i64 c, .int .i64 d])) x) : x = .iface T (.agg #[.int .i64 c, .int .i64 d]) := by
 cases h3 with
 | iface _ _ u hu =>
  cases hu with
  | agg _ vs hs g1 hr =>
   obtain ⟨l⟩ := vs
   match l with
   | [] => simp at hs
   | [_] => simp at hs
   | [a, b] =>
    have ha := hr 0 _ rfl
    have hb := hr 1 _ rfl
    simp at ha hb
    cases ha
    cases hb
    rfl
   | _ :: _ :: _ :: _ => simp at hs
theorem rd_nili {w : World} {F : Nat → Prop} {x : Value} (h : RD w F .nili x) : x = .nilIface := by cases h; rfl
theorem pcall_later {E : Env} {g : FuncId} {args : List D} {r : D} (he : Enters E.P g)
  (h : ∀ w F Γ vs, SR E w F Γ [] → RVL w F Γ (args.map .d) vs → ∃ v, (∀ w' F', RD w' F' r v) ∧ Calls E.P g vs w fun e w' => e = .returned v ∧ Later w w') : PCall E g args r := by
 refine ⟨he, fun w F Γ vs hS hV => ?_⟩
 obtain ⟨v, hv, hc⟩ := h w F Γ vs hS hV
 refine hc.mono ?_
 rintro e w' ⟨rfl, hL⟩
 have hS' : SR E w' F Γ [] := hS.world hL.size fun b hb => by
  rcases hb with hb | ⟨id, s, o, _, h2, _⟩
  ·exact hL.hold b (hS.low b hb)
  ·simp at h2
 exact ⟨v, _, [], F, Γ, rfl, hS', .d (hv w' F), rfl, ⟨hL.os, hL.tape, hL.output, hL.size, fun b hb _ => hL.hold b hb, fun _ h => h, fun _ h _ => .inl h, fun _ ⟨_, _, _, _, h2, _⟩ _ => by simp at h2, fun _ _ => rfl, by simp⟩⟩
end Go.Abs
end
section
set_option autoImplicit false
set_option linter.unusedVariables false
set_option linter.unusedSimpArgs false
namespace Go.Abs
theorem rd_nils_slice {w : World} {F : Nat → Prop} {v : Value} (sz : Nat) (h : RD w F .nils v) : RD w F (.slice sz []) v := by
 cases h
 exact .slice sz [] none 0 (fun _ _ => undef) (by simp) (by simp) (by simp) (by simp) (by simp)
section
variable {E : Env} {n0 : Nat} {t : List AV} {H : List AObj} {ds : List Nat}
theorem Wk.nildat (id j : Nat) (sz : Nat) {l : List AV} (ho : H[id]? = some (.var l)) (hj : l[j]? = some (.d .nils)) :
  Wk E n0 t H ds t (H.set id (.var (l.set j (.d (.slice sz []))))) ds := fun w F Γ tm df hS hT hD hn => by
 have hlt : id < H.length := (List.getElem?_eq_some_iff.1 ho).1
 have hlt' : id < Γ.length := by rw [hS.len]; exact hlt
 obtain ⟨si, hsi⟩ : ∃ si, Γ[id]? = some si := ⟨_, List.getElem?_eq_getElem hlt'⟩
 obtain ⟨b, c, vty, e1, e2, e3, e4⟩ := hS.obj id si _ hsi ho
 have hro : RO w F Γ si (.var (l.set j (.d (.slice sz [])))) := by
  refine ⟨b, c, vty, e1, e2, by simpa using e3, fun k av hk => ?_⟩
  rcases set_get hk with ⟨rfl, rfl, _⟩ | ⟨_, h2⟩
  ·obtain ⟨g1, g2⟩ := e4 _ _ hj
   exact ⟨g1, .d (rd_nils_slice sz g2.of_d)⟩
  ·exact e4 k av h2
 exact ⟨F, Γ, sr_retell hS hsi ho rfl hro, hT, hD, rfl, rfl, rfl, Nat.le_refl _, fun _ _ _ => rfl, fun _ h => h, fun _ h _ => .inl h, fun b' hb' _ => live_retell ho rfl hb', fun id hid => rfl, by first | assumption | (simpa using hn) | omega | exact Nat.le_refl _⟩
theorem WK.nildat {K : K3} (id j : Nat) (sz : Nat) {l : List AV} (ho : H[id]? = some (.var l)) (hj : l[j]? = some (.d .nils))
  (k : WK E n0 K t (H.set id (.var (l.set j (.d (.slice sz []))))) ds) : WK E n0 K t H ds := WK.step (Wk.nildat id j sz ho hj) k
theorem Wk.svaldat (id j : Nat) {l : List AV} {sz : Nat} {xs : List (List D)} (ho : H[id]? = some (.var l)) (hj : l[j]? = some (.svalf sz xs)) :
  Wk E n0 t H ds t (H.set id (.var (l.set j (.d (.slice sz xs))))) ds := fun w F Γ tm df hS hT hD hn => by
 have hlt : id < H.length := (List.getElem?_eq_some_iff.1 ho).1
 have hlt' : id < Γ.length := by rw [hS.len]; exact hlt
 obtain ⟨si, hsi⟩ : ∃ si, Γ[id]? = some si := ⟨_, List.getElem?_eq_getElem hlt'⟩
 obtain ⟨b, c, vty, e1, e2, e3, e4⟩ := hS.obj id si _ hsi ho
 have hro : RO w F Γ si (.var (l.set j (.d (.slice sz xs)))) := by
  refine ⟨b, c, vty, e1, e2, by simpa using e3, fun k av hk => ?_⟩
  rcases set_get hk with ⟨rfl, rfl, _⟩ | ⟨_, h2⟩
  ·obtain ⟨g1, g2⟩ := e4 _ _ hj
   exact ⟨g1, g2.low⟩
  ·exact e4 k av h2
 exact ⟨F, Γ, sr_retell hS hsi ho rfl hro, hT, hD, rfl, rfl, rfl, Nat.le_refl _, fun _ _ _ => rfl, fun _ h => h, fun _ h _ => .inl h, fun b' hb' _ => live_retell ho rfl hb', fun id hid => rfl, by first | assumption | (simpa using hn) | omega | exact Nat.le_refl _⟩
theorem WK.svaldat {K : K3} (id j : Nat) {l : List AV} {sz : Nat} {xs : List (List D)} (ho : H[id]? = some (.var l)) (hj : l[j]? = some (.svalf sz xs))
  (k : WK E n0 K t (H.set id (.var (l.set j (.d (.slice sz xs))))) ds) : WK E n0 K t H ds := WK.step (Wk.svaldat id j ho hj) k
theorem WK.frzpart {K : K3} (j id : Nat) {lo n : Nat} {ty : TypeId} {sz : Nat} {xs : List (List D)} (ho : H[id]? = some (.arr ty sz xs)) (ht : t[j]? = some (.spart id lo n)) (hle : lo + n ≤ xs.length)
  (k : WK E n0 K ((AV.frzL id sz xs t).set j (.d (.slice sz ((xs.drop lo).take n)))) ((H.set id .none).map (AObj.frz id sz xs)) ds) : WK E n0 K t H ds := WK.step (Wk.frzpart j id ho ht hle) k
end
/-! ### A row's first part, taken for the row -/
section
variable {E : Env} {n0 : Nat} {t : List AV} {H : List AObj} {ds : List Nat}
theorem part_push {w : World} {F : Nat → Prop} {Γ : List Slot} (hS : SR E w F Γ H) {id n : Nat} {ty : TypeId} {sz : Nat} {xs : List (List D)} {s : Slot} (hs : Γ[id]? = some s) (ho : H[id]? = some (.arr ty sz xs)) (hle : n ≤ xs.length) :
  SR E w F (Γ ++ [⟨s.b, s.sz, n, s.cap⟩]) (H.set id .none ++ [.arr ty sz (xs.take n)]) := by
 obtain ⟨h1, h2, h3, h4, h5⟩ := hS.obj id s _ hs ho
 refine (hS.dead id).push ⟨h1, by simp; omega, by simp; omega, fun x hx => h4 x (List.mem_of_mem_take hx), ?_⟩ (fun b hb => ⟨hS.sep id s _ b hs ho rfl hb, ?_⟩)
 ·rcases h5 with ⟨g1, g2⟩ | ⟨b, c, g1, g2, g3, g4⟩
  ·exact .inl ⟨g1, g2⟩
  ·refine .inr ⟨b, c, g1, g2, g3, fun i x j d hx hd => ?_⟩
   rw [List.getElem?_take] at hx
   split at hx
   ·obtain ⟨k1, k2⟩ := g4 i x j d hx hd
    exact ⟨k1, k2⟩
   ·cases hx
 ·rintro ⟨j, sj, oj, q1, q2, q3, q4⟩
  rcases set_get q2 with ⟨_, rfl, _⟩ | ⟨hne, q2⟩
  ·simp [AObj.live] at q3
  ·exact hne (hS.inj id j s sj _ oj b hs q1 ho q2 rfl q3 hb q4)
theorem part_ext {w : World} {F : Nat → Prop} {Γ : List Slot} (hS : SR E w F Γ H) (hn : n0 ≤ Γ.length) {id n : Nat} {ty : TypeId} {sz : Nat} {xs : List (List D)} {s : Slot} (hs : Γ[id]? = some s) (ho : H[id]? = some (.arr ty sz xs)) {H' : List AObj}
  (hH : ∀ b, LiveB Γ H' b → LiveB Γ H b) (hl : H'.length = H.length) : Ext n0 w F Γ H w F (Γ ++ [⟨s.b, s.sz, n, s.cap⟩]) (H' ++ [.arr ty sz (xs.take n)]) := by
 refine ⟨rfl, rfl, rfl, Nat.le_refl _, fun _ _ _ => rfl, fun _ h => h, fun _ h _ => .inl h, fun b hb _ => ?_, fun id' hid => ?_, by simp; omega⟩
 ·rcases live_push (by rw [hl]; exact hS.len) hb with h | h
  ·exact hH b h
  ·exact ⟨id, s, _, hs, ho, rfl, h⟩
 ·rw [List.getElem?_append_left (by omega)]
theorem live_off {Γ : List Slot} {id b : Nat} (h : LiveB Γ (H.set id .none) b) : LiveB Γ H b := by
 obtain ⟨j, s, p, h1, h2, h3, h4⟩ := h
 rcases set_get h2 with ⟨_, rfl, _⟩ | ⟨_, h2⟩
 ·simp [AObj.live] at h3
 ·exact ⟨j, s, p, h1, h2, h3, h4⟩
theorem part_full {w : World} {F : Nat → Prop} {Γ : List Slot} {id n m : Nat} {s : Slot} (hs : Γ[id]? = some s) (hm : m = Γ.length) {v : Value} (h : RV w F Γ (.spart id 0 n) v) : RV w F (Γ ++ [⟨s.b, s.sz, n, s.cap⟩]) (.sfull m) v := by
 cases h with
 | spart hs' hnc ha =>
  rw [hs] at hs'
  obtain rfl := Option.some.inj hs'
  obtain ⟨rfl, hA⟩ := ha.2 rfl
  subst hm
  exact .sfull (s := ⟨s.b, s.sz, n, s.cap⟩) (push_get Γ _) hA
theorem Wk.cut (j id : Nat) {n : Nat} {ty : TypeId} {sz : Nat} {xs : List (List D)} (ho : H[id]? = some (.arr ty sz xs)) (ht : t[j]? = some (.spart id 0 n)) (hle : n ≤ xs.length) :
  Wk E n0 t H ds (t.set j (.sfull H.length)) (H.set id .none ++ [.arr ty sz (xs.take n)]) ds := fun w F Γ tm df hS hT hD hn => by
 have hlt : id < Γ.length := by rw [hS.len]; exact (List.getElem?_eq_some_iff.1 ho).1
 obtain ⟨s, hs⟩ : ∃ s, Γ[id]? = some s := ⟨_, List.getElem?_eq_getElem hlt⟩
 have hup : ∀ (i : Nat) s', Γ[i]? = some s' → (Γ ++ [(⟨s.b, s.sz, n, s.cap⟩ : Slot)])[i]? = some s' := pre_push Γ _
 refine ⟨F, _, part_push hS hs ho hle, ⟨by simp [hT.1], fun k av hk => ?_⟩, hD.mono hup, part_ext hS hn hs ho (fun b => live_off) (by simp)⟩
 rcases set_get hk with ⟨rfl, rfl, _⟩ | ⟨_, h2⟩
 ·exact part_full hs hS.len.symm (hT.2 _ _ ht)
 ·exact (hT.2 k av h2).mono (fun _ h => h) (fun _ _ => rfl) hup
theorem WK.cut {K : K3} (j id : Nat) {n : Nat} {ty : TypeId} {sz : Nat} {xs : List (List D)} (ho : H[id]? = some (.arr ty sz xs)) (ht : t[j]? = some (.spart id 0 n)) (hle : n ≤ xs.length)
  (k : WK E n0 K (t.set j (.sfull H.length)) (H.set id .none ++ [.arr ty sz (xs.take n)]) ds) : WK E n0 K t H ds := WK.step (Wk.cut j id ho ht hle) k
end
/-! ### Rows frozen ahead of a call -/
section
variable {E : Env} {H H' : List AObj}
theorem ACalls.told {g : FuncId} {us vs' : List AV} {K : AV → List AObj → Prop} (h : Wk E H.length us H [] vs' H' []) (hl : H.length ≤ H'.length) (k : ACalls E g vs' H' K) : ACalls E g us H K :=
 ⟨k.1, fun w F Γ vs hS hV => by
  obtain ⟨F1, Γ1, h1, h2, _, h4⟩ := h w F Γ vs [] hS hV ⟨rfl, fun i id hi => by simp at hi⟩ (by rw [hS.len]; exact Nat.le_refl _)
  refine (k.2 w F1 Γ1 vs h1 h2).mono ?_
  rintro e w' ⟨v, r, H2, F2, Γ2, k1, k2, k3, k4, k5⟩
  exact ⟨v, r, H2, F2, Γ2, k1, k2, k3, k4, h4.trans hl k5⟩⟩
theorem PCall.frzgo (id : Nat) {ty : TypeId} {sz : Nat} {xs : List (List D)} {g : FuncId} {args : List D} {r : D} (h : PCall E g args r) {us : List AV} {K : AV → List AObj → Prop} (ho : H[id]? = some (.arr ty sz xs))
  (ha : argsOk args (AV.frzL id sz xs us)) (hK : K (.d r) ((H.set id .none).map (AObj.frz id sz xs))) : ACalls E g us H K :=
 ACalls.told (Wk.freeze id ho) (by simp) (h.go ha hK)
end
/-! ### Structs of frozen rows as arguments -/
def AV.lowA : AV → AV
 | .agg cs => mkAgg (cs.map AV.low)
 | a => a.low
theorem RV.lowA {w : World} {F : Nat → Prop} {Γ : List Slot} {a : AV} {v : Value} (h : RV w F Γ a v) : RV w F Γ a.lowA v := by
 cases a with
 | agg cs =>
  cases h with
  | agg _ vs hs h1 hr =>
   have h2 : RV w F Γ (.agg (cs.map AV.low)) (.agg vs) := .agg _ vs (by simpa using hs) h1 fun j d hj => by
    rw [List.getElem?_map] at hj
    cases hx : cs[j]? with
    | none => simp [hx] at hj
    | some x => simp [hx] at hj; subst hj; exact (hr j x hx).low
   show RV w F Γ (mkAgg _) _
   unfold mkAgg
   split
   ·rename_i l hl
    have e := allD_some hl
    rw [e] at h2
    cases h2 with
    | agg _ vs hs h1 hr => exact .d (.agg l vs (by simpa using hs) h1 fun j d hj => (hr j (.d d) (by rw [List.getElem?_map, hj]; rfl)).of_d)
   ·exact h2
 | _ => exact h.low
theorem ACalls.lowA {E : Env} {H : List AObj} {g : FuncId} {us : List AV} {K : AV → List AObj → Prop} (k : ACalls E g (us.map AV.lowA) H K) : ACalls E g us H K :=
 ⟨k.1, fun w F Γ vs hS hV => k.2 w F Γ vs hS ⟨by simpa using hV.1, fun j av hj => by
  rw [List.getElem?_map] at hj
  cases hx : us[j]? with
  | none => simp [hx] at hj
  | some x => simp [hx] at hj; subst hj; exact (hV.2 j x hx).lowA⟩⟩
theorem ACalls.atK {E : Env} {H H0 : List AObj} {g : FuncId} {args0 args : List AV} {K0 K : AV → List AObj → Prop} (σ : List Nat) (h : ACalls E g args0 H0 K0) (hs : sbl (rn σ H.length) σ.length H σ H0) (hnd : σ.Nodup)
  (hin : ∀ i ∈ σ, i < H.length) (ha : args = args0.map (AV.ren (rn σ H.length))) (hb : AV.belL σ.length args0 = true) (hK : ∀ r H', K0 r H' → K (r.ren (rn σ H.length)) (lift σ H H')) : ACalls E g args H K :=
 h.frame σ ⟨(sbl_get hs).1, hnd, hin, (sbl_get hs).2⟩ ha hb hK
end Go.Abs
end
section
set_option autoImplicit false
namespace Go.Abs
/-! Long frames: places far behind, in great strides. -/
theorem set16 {α : Type} {a b c d e f g h i j k l m n o p V : α} {L : List α} {I : Nat} : (a :: b :: c :: d :: e :: f :: g :: h :: i :: j :: k :: l :: m :: n :: o :: p :: L).set (I + 16) V = a :: b :: c :: d :: e :: f :: g :: h :: i :: j :: k :: l :: m :: n :: o :: p :: L.set I V := rfl
theorem getD16 {α : Type} {a b c d e f g h i j k l m n o p V : α} {L : List α} {I : Nat} : (a :: b :: c :: d :: e :: f :: g :: h :: i :: j :: k :: l :: m :: n :: o :: p :: L).getD (I + 16) V = L.getD I V := rfl
theorem getE16 {α : Type} {a b c d e f g h i j k l m n o p : α} {L : List α} {I : Nat} : (a :: b :: c :: d :: e :: f :: g :: h :: i :: j :: k :: l :: m :: n :: o :: p :: L)[I + 16]? = L[I]? := rfl
theorem set_1 {α : Type} {a x V : α} {L : List α} : (a :: x :: L).set 1 V = a :: V :: L := rfl
theorem getD_1 {α : Type} {a x V : α} {L : List α} : (a :: x :: L).getD 1 V = x := rfl
theorem getE_1 {α : Type} {a x : α} {L : List α} : (a :: x :: L)[1]? = some x := rfl
theorem set_2 {α : Type} {a b x V : α} {L : List α} : (a :: b :: x :: L).set 2 V = a :: b :: V :: L := rfl
theorem getD_2 {α : Type} {a b x V : α} {L : List α} : (a :: b :: x :: L).getD 2 V = x := rfl
theorem getE_2 {α : Type} {a b x : α} {L : List α} : (a :: b :: x :: L)[2]? = some x := rfl
theorem set_3 {α : Type} {a b c x V : α} {L : List α} : (a :: b :: c :: x :: L).set 3 V = a :: b :: c :: V :: L := rfl
theorem getD_3 {α : Type} {a b c x V : α} {L : List α} : (a :: b :: c :: x :: L).getD 3 V = x := rfl
theorem getE_3 {α : Type} {a b c x : α} {L : List α} : (a :: b :: c :: x :: L)[3]? = some x := rfl
theorem set_4 {α : Type} {a b c d x V : α} {L : List α} : (a :: b :: c :: d :: x :: L).set 4 V = a :: b :: c :: d :: V :: L := rfl
theorem getD_4 {α : Type} {a b c d x V : α} {L : List α} : (a :: b :: c :: d :: x :: L).getD 4 V = x := rfl
theorem getE_4 {α : Type} {a b c d x : α} {L : List α} : (a :: b :: c :: d :: x :: L)[4]? = some x := rfl
theorem set_5 {α : Type} {a b c d e x V : α} {L : List α} : (a :: b :: c :: d :: e :: x :: L).set 5 V = a :: b :: c :: d :: e :: V :: L := rfl
theorem getD_5 {α : Type} {a b c d e x V : α} {L : List α} : (a :: b :: c :: d :: e :: x :: L).getD 5 V = x := rfl
theorem getE_5 {α : Type} {a b c d e x : α} {L : List α} : (a :: b :: c :: d :: e :: x :: L)[5]? = some x := rfl
theorem set_6 {α : Type} {a b c d e f x V : α} {L : List α} : (a :: b :: c :: d :: e :: f :: x :: L).set 6 V = a :: b :: c :: d :: e :: f :: V :: L := rfl
theorem getD_6 {α : Type} {a b c d e f x V : α} {L : List α} : (a :: b :: c :: d :: e :: f :: x :: L).getD 6 V = x := rfl
theorem getE_6 {α : Type} {a b c d e f x : α} {L : List α} : (a :: b :: c :: d :: e :: f :: x :: L)[6]? = some x := rfl
theorem set_7 {α : Type} {a b c d e f g x V : α} {L : List α} : (a :: b :: c :: d :: e :: f :: g :: x :: L).set 7 V = a :: b :: c :: d :: e :: f :: g :: V :: L := rfl
theorem getD_7 {α : Type} {a b c d e f g x V : α} {L : List α} : (a :: b :: c :: d :: e :: f :: g :: x :: L).getD 7 V = x := rfl
theorem getE_7 {α : Type} {a b c d e f g x : α} {L : List α} : (a :: b :: c :: d :: e :: f :: g :: x :: L)[7]? = some x := rfl
theorem set_8 {α : Type} {a b c d e f g h x V : α} {L : List α} : (a :: b :: c :: d :: e :: f :: g :: h :: x :: L).set 8 V = a :: b :: c :: d :: e :: f :: g :: h :: V :: L := rfl
theorem getD_8 {α : Type} {a b c d e f g h x V : α} {L : List α} : (a :: b :: c :: d :: e :: f :: g :: h :: x :: L).getD 8 V = x := rfl
theorem getE_8 {α : Type} {a b c d e f g h x : α} {L : List α} : (a :: b :: c :: d :: e :: f :: g :: h :: x :: L)[8]? = some x := rfl
theorem set_9 {α : Type} {a b c d e f g h i x V : α} {L : List α} : (a :: b :: c :: d :: e :: f :: g :: h :: i :: x :: L).set 9 V = a :: b :: c :: d :: e :: f :: g :: h :: i :: V :: L := rfl
theorem getD_9 {α : Type} {a b c d e f g h i x V : α} {L : List α} : (a :: b :: c :: d :: e :: f :: g :: h :: i :: x :: L).getD 9 V = x := rfl
theorem getE_9 {α : Type} {a b c d e f g h i x : α} {L : List α} : (a :: b :: c :: d :: e :: f :: g :: h :: i :: x :: L)[9]? = some x := rfl
theorem set_10 {α : Type} {a b c d e f g h i j x V : α} {L : List α} : (a :: b :: c :: d :: e :: f :: g :: h :: i :: j :: x :: L).set 10 V = a :: b :: c :: d :: e :: f :: g :: h :: i :: j :: V :: L := rfl
theorem getD_10 {α : Type} {a b c d e f g h i j x V : α} {L : List α} : (a :: b :: c :: d :: e :: f :: g :: h :: i :: j :: x :: L).getD 10 V = x := rfl
theorem getE_10 {α : Type} {a b c d e f g h i j x : α} {L : List α} : (a :: b :: c :: d :: e :: f :: g :: h :: i :: j :: x :: L)[10]? = some x := rfl
theorem set_11 {α : Type} {a b c d e f g h i j k x V : α} {L : List α} : (a :: b :: c :: d :: e :: f :: g :: h :: i :: j :: k :: x :: L).set 11 V = a :: b :: c :: d :: e :: f :: g :: h :: i :: j :: k :: V :: L := rfl
theorem getD_11 {α : Type} {a b c d e f g h i j k x V : α} {L : List α} : (a :: b :: c :: d :: e :: f :: g :: h :: i :: j :: k :: x :: L).getD 11 V = x := rfl
theorem getE_11 {α : Type} {a b c d e f g h i j k x : α} {L : List α} : (a :: b :: c :: d :: e :: f :: g :: h :: i :: j :: k :: x :: L)[11]? = some x := rfl
theorem set_12 {α : Type} {a b c d e f g h i j k l x V : α} {L : List α} : (a :: b :: c :: d :: e :: f :: g :: h :: i :: j :: k :: l :: x :: L).set 12 V = a :: b :: c :: d :: e :: f :: g :: h :: i :: j :: k :: l :: V :: L := rfl
theorem getD_12 {α : Type} {a b c d e f g h i j k l x V : α} {L : List α} : (a :: b :: c :: d :: e :: f :: g :: h :: i :: j :: k :: l :: x :: L).getD 12 V = x := rfl
theorem getE_12 {α : Type} {a b c d e f g h i j k l x : α} {L : List α} : (a :: b :: c :: d :: e :: f :: g :: h :: i :: j :: k :: l :: x :: L)[12]? = some x := rfl
theorem set_13 {α : Type} {a b c d e f g h i j k l m x V : α} {L : List α} : (a :: b :: c :: d :: e :: f :: g :: h :: i :: j :: k :: l :: m :: x :: L).set 13 V = a :: b :: c :: d :: e :: f :: g :: h :: i :: j :: k :: l :: m :: V :: L := rfl
theorem getD_13 {α : Type} {a b c d e f g h i j k l m x V : α} {L : List α} : (a :: b :: c :: d :: e :: f :: g :: h :: i :: j :: k :: l :: m :: x :: L).getD 13 V = x := rfl
theorem getE_13 {α : Type} {a b c d e f g h i j k l m x : α} {L : List α} : (a :: b :: c :: d :: e :: f :: g :: h :: i :: j :: k :: l :: m :: x :: L)[13]? = some x := rfl
theorem set_14 {α : Type} {a b c d e f g h i j k l m n x V : α} {L : List α} : (a :: b :: c :: d :: e :: f :: g :: h :: i :: j :: k :: l :: m :: n :: x :: L).set 14 V = a :: b :: c :: d :: e :: f :: g :: h :: i :: j :: k :: l :: m :: n :: V :: L := rfl
theorem getD_14 {α : Type} {a b c d e f g h i j k l m n x V : α} {L : List α} : (a :: b :: c :: d :: e :: f :: g :: h :: i :: j :: k :: l :: m :: n :: x :: L).getD 14 V = x := rfl
theorem getE_14 {α : Type} {a b c d e f g h i j k l m n x : α} {L : List α} : (a :: b :: c :: d :: e :: f :: g :: h :: i :: j :: k :: l :: m :: n :: x :: L)[14]? = some x := rfl
theorem set_15 {α : Type} {a b c d e f g h i j k l m n o x V : α} {L : List α} : (a :: b :: c :: d :: e :: f :: g :: h :: i :: j :: k :: l :: m :: n :: o :: x :: L).set 15 V = a :: b :: c :: d :: e :: f :: g :: h :: i :: j :: k :: l :: m :: n :: o :: V :: L := rfl
theorem getD_15 {α : Type} {a b c d e f g h i j k l m n o x V : α} {L : List α} : (a :: b :: c :: d :: e :: f :: g :: h :: i :: j :: k :: l :: m :: n :: o :: x :: L).getD 15 V = x := rfl
theorem getE_15 {α : Type} {a b c d e f g h i j k l m n o x : α} {L : List α} : (a :: b :: c :: d :: e :: f :: g :: h :: i :: j :: k :: l :: m :: n :: o :: x :: L)[15]? = some x := rfl
attribute [push_cast] Qloop_ret Qloop_exit Qloop_normal AV.frzL AV.frz AObj.frz IntKind.bits bits32 bits63 ints_length intss_length sl sll
 Int.natCast_nonneg Int.ofNat_lt Kat_go Kst_go Kreg_go KregW_go Kdr_go Qseq_normal Qseq_ret Qseq_exit Qblk_normal Qblk_ret Qblk_exit Qnog_normal Qnog_ret Qnog_exit
 Kbr_true Kbr_false Vbr_true Vbr_false Kgo_go Kno_go Dgo_go Dno_go Kcons_go Kres_go Kone_go Kfin_go Kapp_nils Kapp_svalf apSame_new apSame_more apSame_old Kapp_sfull
 aresL_nil aresL_tmp aresL_cell aret_ret aret_normal aregL_nil aregL_plain aregL_guard adrawL_nil adrawL_plain adrawL_guard
 awpL_skip awpL_scope awpL_label awpL_region awpL_draw awpL_seq awpL_cond awpL_block awpL_loop awpL_exit awpL_ret awpL_rangeFunc B_True B_False Same_go
 Kt_go Kt0_go Kdn_go Kdet_go DtGo_go DtNo_go dgoL_nil dgoL_cons KtGo_go KtNo_go atailL_nil atailL_plain atailL_guard pickL_nil pickL_cons
 allDefr_nil allDefr_cons offs_nil offs_cons Kdl_go Qrnd_normal Qrnd_ret Qrnd_exit putPs aop_makeMap aop_mapUpdate aop_insert
 aop_range aop_next aop_entry aop_lookup aop_delete aop_clear qop_lookup amkmap amapup adel aclear arange anext aentry alook zeroV
 TI.zv lookRes lift putAll rn AV.ren AV.renL ren_none ren_var ren_arr ren_map ren_mapb ren_iter ren_loop ren_defr aop_move
 aop_assign aop_pick aop_load aop_nilCheck aop_binOp aop_unOp aop_convert aop_makeInterface aop_makeFunc aop_slice aop_fieldAddr
 aop_field aop_indexAddr aop_extract aop_build aop_box aop_new aop_store aop_buildSlice aop_makeSlice aop_append aop_cap aapp2 aappZ aop_len aop_max
 aop_min aop_call qop_move qop_assign qop_pick qop_load qop_nilCheck qop_binOp qop_unOp qop_convert qop_makeInterface qop_makeFunc
 qop_slice qop_fieldAddr qop_field qop_indexAddr qop_extract qop_build qop_buildSlice qop_cap qop_len qop_max qop_min qop_call qcallF_go
 acallF_go aapp_go apureCall ev cst putT gval aopBin isSl isAggK fitL SK.fits dkeq skeqL skeq abin aint bEq astr acmp ptrish
 ifaceish isC aun aconv anil rowLen alen rowPtr aidx fld afldAddr apart afld aext aslice optI aload rdRow ldK kd esz abuild zeroC
 aplace afill splice AV.cells D.cells mkAgg mkTup mkFunc mkIface allD known abox aalloc astore abuildS AV.low rep chunk amake
 srcRows one? isEff qpre qtail List.getD_cons_zero List.getD_nil List.set_cons_zero
 List.set_nil List.getElem?_cons_zero List.getElem?_nil List.length_cons List.length_nil List.map_cons
 List.map_nil List.cons_append List.nil_append List.append_nil List.take_succ_cons List.take_zero List.take_nil List.drop_succ_cons
 List.drop_zero List.drop_nil List.all_cons List.all_nil List.replicate_zero Option.isSome_some Option.map_some Option.map_none
 Bool.and_true Bool.true_and Bool.or_true Bool.true_or Bool.and_false Bool.or_false Bool.false_or Bool.false_and Bool.not_true
 Bool.not_false Bool.not_not beq_self_eq_true bne_self_eq_false true_and and_true if_true if_false ite_true ite_false ne_eq
 not_true_eq_false not_false_eq_true Nat.zero_add Nat.add_zero Int.toNat_zero Int.toNat_natCast Nat.zero_mul Nat.one_mul Nat.mul_one
 Bool.true_beq Bool.false_beq and_self Option.some.injEq decide_true decide_false Option.getD_some Option.getD_none
 Option.isSome_none List.zip_cons_cons List.zip_nil_right List.toList_toArray Int.cast_ofNat_Int
attribute [push_cast] set16 getD16 getE16 set_1 getD_1 getE_1 set_2 getD_2 getE_2 set_3 getD_3 getE_3 set_4 getD_4 getE_4 set_5 getD_5 getE_5 set_6 getD_6 getE_6 set_7 getD_7 getE_7 set_8 getD_8 getE_8 set_9 getD_9 getE_9 set_10 getD_10 getE_10 set_11 getD_11 getE_11 set_12 getD_12 getE_12 set_13 getD_13 getE_13 set_14 getD_14 getE_14 set_15 getD_15 getE_15
end Go.Abs
end
