/-
  Plain facts on sums of lists of vectors: in another order, and in two parts.
-/
import Derived.Test.YtmbkemofejpnfaaL0
set_option autoImplicit false
set_option linter.unusedVariables false
namespace Go.Proofs.Ytmbkemofejpnfaa
open Go.Abs

theorem psum_sum (f : Nat → Int) : ∀ n : Nat, psum f n = ((List.range n).map f).sum
  | 0 => rfl
  | n + 1 => by simp [psum, psum_sum f n, List.range_succ, List.sum_append]
theorem colS_sum (l : List (List Int)) (k : Nat) : colS l k = (l.map fun v => v.getD k 0).sum := by
  rw [colS, psum_sum]
  congr 1
  refine List.ext_getElem (by simp) fun j h1 h2 => ?_
  have hj : j < l.length := by simpa using h2
  simp [at2, List.getD_eq_getElem?_getD, hj]
theorem colS_reverse (l : List (List Int)) (k : Nat) : colS l.reverse k = colS l k := by
  rw [colS_sum, colS_sum, List.map_reverse, List.sum_reverse]
theorem colS_split (l : List (List Int)) (m k : Nat) : colS l k = colS (l.take m) k + colS (l.drop m) k := by
  rw [colS_sum, colS_sum, colS_sum, ← List.sum_append, ← List.map_append, List.take_append_drop]
/-- All vectors have the same length. -/
def Even (l : List (List Int)) (n : Nat) : Prop := ∀ v ∈ l, v.length = n
theorem addP_even (l : List (List Int)) : AddP l ↔ l ≠ [] ∧ ∃ n, Even l n ∧ ∀ k, k < n → I64 (colS l k) := by
  constructor
  · rintro ⟨h0, h1, h2⟩
    refine ⟨fun h => by rw [h] at h0; simp at h0, (l.getD 0 []).length, fun v hv => ?_, h2⟩
    obtain ⟨j, hj, rfl⟩ := List.getElem_of_mem hv
    have := h1 j hj
    rwa [List.getD_eq_getElem?_getD, List.getElem?_eq_getElem hj] at this
  · rintro ⟨h0, n, h1, h2⟩
    have hl : 0 < l.length := List.length_pos_iff.2 h0
    have len : ∀ j, j < l.length → (l.getD j []).length = n := fun j hj => by
      rw [List.getD_eq_getElem?_getD, List.getElem?_eq_getElem hj]
      exact h1 _ (List.getElem_mem hj)
    exact ⟨hl, fun j hj => by rw [len j hj, len 0 hl], fun k hk => h2 k (by rwa [len 0 hl] at hk)⟩
theorem addS_even {l : List (List Int)} {n : Nat} (h0 : l ≠ []) (h1 : Even l n) (h2 : ∀ k, k < n → I64 (colS l k)) : addS l = some ((List.range n).map (colS l)) := by
  have hl : 0 < l.length := List.length_pos_iff.2 h0
  have e : (l.getD 0 []).length = n := by
    rw [List.getD_eq_getElem?_getD, List.getElem?_eq_getElem hl]
    exact h1 _ (List.getElem_mem hl)
  rw [addS, B_true ((addP_even l).2 ⟨h0, n, h1, h2⟩), e]
  rfl
theorem addS_reverse (l : List (List Int)) : addS l.reverse = addS l := by
  by_cases h : AddP l
  · obtain ⟨h0, n, h1, h2⟩ := (addP_even l).1 h
    rw [addS_even h0 h1 h2, addS_even (n := n) (by simpa using h0) (fun v hv => h1 v (by simpa using hv)) (fun k hk => by rw [colS_reverse]; exact h2 k hk)]
    congr 2
    funext k
    exact colS_reverse l k
  · have h' : ¬ AddP l.reverse := fun k => by
      obtain ⟨h0, n, h1, h2⟩ := (addP_even _).1 k
      exact h ((addP_even l).2 ⟨by simpa using h0, n, fun v hv => h1 v (by simpa using hv), fun k hk => by have := h2 k hk; rwa [colS_reverse] at this⟩)
    rw [addS, addS, B_false h, B_false h']
    rfl
/-- In two parts that have sums. -/
theorem addS_parts {l : List (List Int)} {m : Nat} {a b : List Int} (ha : addS (l.take m) = some a) (hb : addS (l.drop m) = some b) : addS [a, b] = addS l := by
  have pa : AddP (l.take m) := Classical.byContradiction fun h => by rw [addS, B_false h] at ha; cases ha
  have pb : AddP (l.drop m) := Classical.byContradiction fun h => by rw [addS, B_false h] at hb; cases hb
  obtain ⟨a0, n, a1, a2⟩ := (addP_even _).1 pa
  obtain ⟨b0, n', b1, b2⟩ := (addP_even _).1 pb
  rw [addS_even a0 a1 a2] at ha
  rw [addS_even b0 b1 b2] at hb
  obtain rfl := Option.some.inj ha
  obtain rfl := Option.some.inj hb
  have hne : l ≠ [] := fun h => a0 (by rw [h]; simp)
  have ga : ∀ {x : List (List Int)} {n k : Nat}, k < n → ((List.range n).map (colS x)).getD k 0 = colS x k := fun {x n k} hk => by simp [List.getD_eq_getElem?_getD, hk]
  by_cases hn : n = n'
  · subst hn
    have he : Even l n := fun v hv => by
      rw [← List.take_append_drop m l] at hv
      rcases List.mem_append.1 hv with hv | hv
      · exact a1 v hv
      · exact b1 v hv
    have hc : ∀ k, k < n → colS [(List.range n).map (colS (l.take m)), (List.range n).map (colS (l.drop m))] k = colS l k := fun k hk => by
      rw [colS_two, ga hk, ga hk, ← colS_split]
    by_cases hk : ∀ k, k < n → I64 (colS l k)
    · rw [addS_even hne he hk, addS_even (n := n) (by simp) (fun v hv => by simp at hv; rcases hv with rfl | rfl <;> simp) (fun k h => by rw [hc k h]; exact hk k h)]
      congr 1
      exact List.map_congr_left fun k h => hc k (by simpa using h)
    · have h1 : ¬ AddP l := fun h => by
        obtain ⟨_, q, q1, q2⟩ := (addP_even _).1 h
        obtain ⟨v, hv⟩ := List.exists_mem_of_ne_nil l hne
        have : q = n := by rw [← q1 v hv, he v hv]
        exact hk (this ▸ q2)
      have h2 : ¬ AddP [(List.range n).map (colS (l.take m)), (List.range n).map (colS (l.drop m))] := fun h => by
        obtain ⟨_, q2⟩ := (addP_two _ _).1 h
        refine hk fun k h' => ?_
        have := q2 k (by simpa using h')
        rwa [← colS_two, hc k h'] at this
      rw [addS, addS, B_false h1, B_false h2]
      rfl
  · have h1 : ¬ AddP l := fun h => by
      obtain ⟨_, q, q1, _⟩ := (addP_even _).1 h
      obtain ⟨v, hv⟩ := List.exists_mem_of_ne_nil _ a0
      obtain ⟨u, hu⟩ := List.exists_mem_of_ne_nil _ b0
      have e1 := q1 v (List.mem_of_mem_take hv)
      have e2 := q1 u (List.mem_of_mem_drop hu)
      rw [a1 v hv] at e1
      rw [b1 u hu] at e2
      exact hn (e1.trans e2.symm)
    have h2 : ¬ AddP [(List.range n).map (colS (l.take m)), (List.range n').map (colS (l.drop m))] := fun h => by
      obtain ⟨q1, _⟩ := (addP_two _ _).1 h
      simp at q1
      exact hn q1.symm
    rw [addS, addS, B_false h1, B_false h2]
    rfl
theorem intss_take (l : List (List Int)) (m : Nat) : (intss l).take m = intss (l.take m) := by simp [intss, List.map_take]
theorem intss_drop (l : List (List Int)) (m : Nat) : (intss l).drop m = intss (l.drop m) := by simp [intss, List.map_drop]
theorem app_intss (l : List (List Int)) (x : List Int) : intss l ++ [[.slice 1 (ints x)]] = intss (l ++ [x]) := by simp [intss, sl]
theorem inRs_mem {l : List (List Int)} (h : InRs l) : ∀ x ∈ l, InR x := fun x hx => by
  obtain ⟨j, hj, rfl⟩ := List.getElem_of_mem hx
  have := h j
  rwa [List.getD_eq_getElem?_getD, List.getElem?_eq_getElem hj] at this
theorem sz_mem {l : List (List Int)} (h : ∀ j, Sz (l.getD j [])) : ∀ x ∈ l, Sz x := fun x hx => by
  obtain ⟨j, hj, rfl⟩ := List.getElem_of_mem hx
  have := h j
  rwa [List.getD_eq_getElem?_getD, List.getElem?_eq_getElem hj] at this
theorem addS_sz {l : List (List Int)} {xs : List Int} (hs : ∀ j, Sz (l.getD j [])) (h : addS l = some xs) : Sz xs ∧ InR xs := by
  have pa : AddP l := Classical.byContradiction fun hn => by rw [addS, B_false hn] at h; cases h
  rw [addS, B_true pa] at h
  obtain rfl := Option.some.inj h
  refine ⟨by simpa [Sz] using hs 0, inR_by (n := (l.getD 0 []).length) (by simp) fun k hk => ?_⟩
  have := pa.2.2 k hk
  have e : ((List.range (l.getD 0 []).length).map (colS l)).getD k 0 = colS l k := by
    rw [List.getD_eq_getElem?_getD, List.getElem?_map, List.getElem?_range hk]; rfl
  rw [e]; exact this
end Go.Proofs.Ytmbkemofejpnfaa
