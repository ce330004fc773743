/-
  The plain law: a map's entries in whatever order, and the reference implementation's sorted list, step for step.
-/
import Derived.Test.YtdmdjiaocbccpaaDoorT7
set_option autoImplicit false
set_option linter.unusedVariables false
set_option linter.unusedSimpArgs false
namespace Go.Proofs.YtdmdjiaocbccpaaDoor
open Go.Abs

/-- The list is sorted by ids and holds what the table holds. -/
structure Rl (sz : Int) (L w : List (Int × Int)) : Prop where
  nd : NoDup L
  perm : L.Perm w
  sorted : w.Pairwise (fun p q => p.1 < q.1)
  room : (L.length : Int) ≤ sz
section
variable {sz : Int} {L w : List (Int × Int)} {k v : Int}

theorem Rl.len (h : Rl sz L w) : L.length = w.length := h.perm.length_eq
theorem Rl.mem (h : Rl sz L w) {p : Int × Int} : p ∈ L ↔ p ∈ w := h.perm.mem_iff
theorem Rl.ndw (h : Rl sz L w) : NoDup w := ((h.perm.map (fun p : Int × Int => p.1)).nodup_iff).1 (show (L.map (fun p : Int × Int => p.1)).Nodup from h.nd)
theorem take_all {α : Type} (q : α → Bool) : ∀ {l : List α} {a : α}, a ∈ l.takeWhile q → q a = true
  | [], a, h => by simp at h
  | b :: l, a, h => by
    rw [List.takeWhile_cons] at h
    split at h
    · rcases List.mem_cons.1 h with rfl | h
      · assumption
      · exact take_all q h
    · simp at h
theorem nodup_of {l : List (Int × Int)} (h : NoDup l) : l.Nodup := by
  have := List.pairwise_map.1 (show (l.map (fun p : Int × Int => p.1)).Pairwise (· ≠ ·) from h)
  exact this.imp fun hne e => hne (by rw [e])
theorem idx_none : w.findIdx? (fun p => k == p.1) = none ↔ lget w k = none := by
  rw [List.findIdx?_eq_none_iff, lget_none]
  constructor
  · intro h hm
    obtain ⟨p, hp, he⟩ := List.mem_map.1 hm
    have := h p hp
    simp [he] at this
  · intro h p hp
    cases hk : (k == p.1) with
    | false => rfl
    | true => exact absurd (List.mem_map.2 ⟨p, hp, (beq_iff_eq.1 hk).symm⟩) h
theorem Rl.get (h : Rl sz L w) (k : Int) : lget L k = lget w k := by
  cases hL : lget L k with
  | none =>
    symm
    rw [lget_none] at hL ⊢
    intro hm
    exact hL ((h.perm.map (·.1)).mem_iff.2 hm)
  | some u =>
    symm
    rw [lget_mem h.nd] at hL
    rw [lget_mem h.ndw]
    exact h.mem.1 hL
theorem Rl.empty (h : 0 ≤ sz) : Rl sz [] [] := ⟨by simp [NoDup], .refl _, by simp, by simpa using h⟩

theorem rfind_neg : rfind w k < 0 ↔ lget w k = none := by
  unfold rfind
  cases hf : w.findIdx? (fun p => k == p.1) with
  | none => simp only; exact ⟨fun _ => idx_none.1 hf, fun _ => by decide⟩
  | some i =>
    simp only
    constructor
    · intro h; omega
    · intro h; rw [idx_none.2 h] at hf; cases hf
theorem rfind_geq : decide (rfind w k ≥ 0) = (lget w k).isSome := by
  cases h : lget w k with
  | none => have := rfind_neg.2 h; simp; omega
  | some u =>
    have : ¬ rfind w k < 0 := fun h' => by rw [rfind_neg.1 h'] at h; cases h
    simp; omega
theorem rfind_at (hw : NoDup w) {u : Int} (h : lget w k = some u) : ∃ i : Nat, rfind w k = (i : Int) ∧ i < w.length ∧ w.getD i (0, 0) = (k, u) := by
  unfold rfind
  cases hf : w.findIdx? (fun p => k == p.1) with
  | none => rw [idx_none.1 hf] at h; cases h
  | some i =>
    obtain ⟨hi, hk, _⟩ := List.findIdx?_eq_some_iff_getElem.1 hf
    refine ⟨i, rfl, hi, ?_⟩
    rw [lget_mem hw] at h
    have hki : w[i].1 = k := (beq_iff_eq.1 hk).symm
    have : w[i] = (k, u) := by
      obtain ⟨j, hj⟩ := List.mem_iff_getElem?.1 h
      have hil : i < (w.map (·.1)).length := by simpa using hi
      have : i = j := (List.getElem?_inj hil hw).1 (by rw [List.getElem?_map, List.getElem?_map, hj, List.getElem?_eq_getElem hi]; simp [hki])
      subst this
      rw [List.getElem?_eq_getElem hi] at hj
      exact Option.some.inj hj
    simp [List.getD_eq_getElem?_getD, hi, this]

theorem ins_perm (l : List (Int × Int)) (p : Int × Int) : (l ++ [p]).Perm (ins l p) := by
  unfold ins
  have e : l = l.takeWhile (fun q => decide (q.1 < p.1)) ++ l.dropWhile (fun q => decide (q.1 < p.1)) := List.takeWhile_append_dropWhile.symm
  conv => lhs; rw [e]
  rw [List.append_assoc, List.append_assoc]
  exact (List.perm_append_comm).append_left _
theorem drop_ge : ∀ {l : List (Int × Int)} {p : Int × Int}, l.Pairwise (fun a b => a.1 < b.1) → p.1 ∉ l.map (·.1) → ∀ q ∈ l.dropWhile (fun q => decide (q.1 < p.1)), p.1 < q.1
  | [], p, _, _, q, hq => by simp at hq
  | a :: l, p, hs, hn, q, hq => by
    obtain ⟨h1, h2⟩ := List.pairwise_cons.1 hs
    rw [List.dropWhile_cons] at hq
    split at hq
    · exact drop_ge h2 (fun h => hn (by simp [h])) q hq
    · rename_i ha
      have hap : ¬ a.1 < p.1 := by simpa using ha
      have hne : p.1 ≠ a.1 := fun h => hn (by simp [h])
      rcases List.mem_cons.1 hq with rfl | hq
      · omega
      · have := h1 q hq; omega
theorem ins_sorted {l : List (Int × Int)} {p : Int × Int} (hs : l.Pairwise (fun a b => a.1 < b.1)) (hn : p.1 ∉ l.map (·.1)) : (ins l p).Pairwise (fun a b => a.1 < b.1) := by
  unfold ins
  rw [List.append_assoc, List.pairwise_append]
  refine ⟨hs.sublist (List.takeWhile_sublist _), ?_, fun a ha b hb => ?_⟩
  · rw [List.singleton_append, List.pairwise_cons]
    exact ⟨fun q hq => drop_ge hs hn q hq, hs.sublist (List.dropWhile_sublist _)⟩
  · have hap : a.1 < p.1 := by
      have := take_all _ ha
      simpa using this
    rw [List.singleton_append] at hb
    rcases List.mem_cons.1 hb with rfl | hb
    · exact hap
    · have := drop_ge hs hn b hb; omega

/-- Adding. -/
theorem Rl.add (h : Rl sz L w) : Rl sz (addL sz L k v) (raddL w sz (k, v)) ∧ (addE sz L k).getD 0 = raddE w sz (k, v) := by
  have hg := h.get k
  have hl := h.len
  unfold addL addE raddL raddE
  by_cases c1 : (lget L k).isSome = true
  · have c2 : 0 ≤ rfind w k := by
      have := rfind_geq (w := w) (k := k)
      rw [← hg, c1] at this
      simpa using this
    rw [if_pos c1, if_pos c1, if_pos c2, if_pos c2]
    exact ⟨h, rfl⟩
  · have c0 : lget w k = none := by rw [← hg]; cases hh : lget L k <;> simp_all
    have c2 : ¬ 0 ≤ rfind w k := by have := rfind_neg.2 c0; omega
    have hr := h.room
    rw [if_neg c1, if_neg c1, if_neg c2, if_neg c2]
    by_cases c3 : sz = L.length
    · rw [if_pos c3, if_pos c3, if_pos (by omega), if_pos (by omega)]
      exact ⟨h, rfl⟩
    · rw [if_neg c3, if_neg c3, if_neg (by omega), if_neg (by omega)]
      have hLn : lget L k = none := by rw [hg]; exact c0
      refine ⟨⟨lput_nodup h.nd, ?_, ins_sorted h.sorted (lget_none.1 c0), ?_⟩, rfl⟩
      · rw [lput_new hLn]
        exact (h.perm.append_right _).trans (ins_perm w (k, v))
      · rw [lput_new hLn]; simp; omega
theorem set_perm : ∀ {l : List (Int × Int)} {i : Nat} {p : Int × Int} (hi : i < l.length), (l.set i p).Perm (p :: l.eraseIdx i)
  | [], i, p, hi => by simp at hi
  | a :: l, 0, p, hi => by simp
  | a :: l, i + 1, p, hi => by
    simp only [List.set_cons_succ, List.eraseIdx_cons_succ]
    exact ((set_perm (by simpa using hi)).cons a).trans (List.Perm.swap p a _)
/-- Lists without repeated ids that hold the same are one another's permutations. -/
theorem perm_of {L w : List (Int × Int)} (h1 : NoDup L) (h2 : NoDup w) (h : ∀ p, p ∈ L ↔ p ∈ w) : L.Perm w := by
  have n1 : L.Nodup := nodup_of h1
  have n2 : w.Nodup := nodup_of h2
  exact (List.perm_ext_iff_of_nodup n1 n2).2 h
theorem rset_eq (w : List (Int × Int)) (k v : Int) (h : lget w k ≠ none) : rsetL w k v = lput w k v := by
  unfold rsetL lput
  cases hf : w.findIdx? (fun p => k == p.1) with
  | none => exact absurd (idx_none.1 hf) h
  | some i => rfl
theorem set_sorted {l : List (Int × Int)} {k v : Int} (hs : l.Pairwise (fun a b => a.1 < b.1)) (h : lget l k ≠ none) : (lput l k v).Pairwise (fun a b => a.1 < b.1) := by
  have h1 : (l.map (·.1)).Pairwise (· < ·) := List.pairwise_map.2 hs
  rw [← lput_keys (v := v) h] at h1
  exact List.pairwise_map.1 h1
/-- Replacing. -/
theorem Rl.set (h : Rl sz L w) : Rl sz (setL L k v) (rsetL w k v) ∧ (setE L k).getD 0 = rsetE w k := by
  have hg := h.get k
  unfold setL setE
  by_cases c1 : (lget L k).isSome = true
  · have hne : lget w k ≠ none := by rw [← hg]; intro e; rw [e] at c1; cases c1
    rw [if_pos c1, if_pos c1, rset_eq w k v hne]
    refine ⟨⟨lput_nodup h.nd, perm_of (lput_nodup h.nd) (lput_nodup h.ndw) fun p => ?_, set_sorted h.sorted hne, ?_⟩, ?_⟩
    · rw [lput_mem h.nd, lput_mem h.ndw, h.mem]
    · rw [lput_length, if_pos c1]; exact h.room
    · unfold rsetE
      cases hf : w.findIdx? (fun p => k == p.1) with
      | none => exact absurd (idx_none.1 hf) hne
      | some i => rfl
  · have hn : lget w k = none := by rw [← hg]; cases hh : lget L k <;> simp_all
    rw [if_neg c1, if_neg c1]
    unfold rsetL rsetE
    rw [idx_none.2 hn]
    exact ⟨h, rfl⟩
/-- Removing. -/
theorem Rl.del (h : Rl sz L w) : Rl sz (ldel L k) (rdel w k) := by
  have hs : (rdel w k).Sublist w := List.filter_sublist
  have hn : NoDup (rdel w k) := h.ndw.sublist (hs.map _)
  refine ⟨ldel_nodup h.nd, perm_of (ldel_nodup h.nd) hn fun p => ?_, h.sorted.sublist hs, ?_⟩
  · rw [ldel_mem h.nd, h.mem]
    unfold rdel
    rw [List.mem_filter]
    simp
  · have hr := h.room
    have : (ldel L k).length ≤ L.length := by rw [ldel_length]; split <;> omega
    omega
theorem Rl.ids (h : Rl sz L w) : srt (L.map (·.1)) = w.map (·.1) :=
  srt_unique ((h.perm.map (·.1)).symm) (List.pairwise_map.2 (h.sorted.imp (fun h => Int.le_of_lt h)))
end
end Go.Proofs.YtdmdjiaocbccpaaDoor
