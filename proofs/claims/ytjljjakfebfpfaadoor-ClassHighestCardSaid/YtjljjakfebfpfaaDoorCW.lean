/-
  The plain law of classes: a store's table and the sorted list hold the same; the highest class of either.
-/
import Derived.Test.YtjljjakfebfpfaaDoorCA
set_option autoImplicit false
set_option linter.unusedVariables false
set_option linter.unusedSimpArgs false
namespace Go.Proofs.YtjljjakfebfpfaaDoor
open Go.Abs

theorem kv_get {w : List Cls} {k : Int} {c : Cls} (hn : NoDup (kv ck w)) (h : c ∈ w) (hk : ck c = k) : lget (kv ck w) k = some c := by
  rw [lget_mem hn]
  exact List.mem_map.2 ⟨c, h, by rw [hk]⟩
theorem all_eq {sz : Int} {L : List (Int × Cls)} {w : List Cls} (h : Rl sz L (kv ck w)) : allOf L (srt (L.map (·.1))) = w := by
  rw [h.ids, kv_keys]
  unfold allOf
  rw [List.map_map]
  conv => rhs; rw [← List.map_id' w]
  refine List.map_congr_left fun c hc => ?_
  simp only [Function.comp, lk, h.get, kv_get h.ndw hc rfl, Option.getD_some]
def topC : List Cls → Option Cls
  | [] => none
  | c :: r => some (mx (c :: r) r.length)
theorem high_eq {sz : Int} {L : List (Int × Cls)} {w : List Cls} (h : Rl sz L (kv ck w)) : highest L = topC w := by
  unfold highest
  rw [all_eq h]
  cases w <;> rfl
/-- Sorted by ids. -/
def SrtC (w : List Cls) : Prop := ∀ i j, i < j → j < w.length → (w.getD i (0, 0, false)).1 < (w.getD j (0, 0, false)).1
theorem srtC_of {sz : Int} {L : List (Int × Cls)} {w : List Cls} (h : Rl sz L (kv ck w)) : SrtC w := by
  intro i j hij hj
  have hs := List.pairwise_map.1 (show ((w.map fun c => (ck c, c)).Pairwise fun a b => a.1 < b.1) from h.sorted)
  have := List.pairwise_iff_getElem.1 hs i j (by omega) hj hij
  simpa [List.getD_eq_getElem?_getD, hj, show i < w.length by omega] using this
theorem mx_best {w : List Cls} (hs : SrtC w) (ho : ∀ j, j < w.length → okC (w.getD j (0, 0, false))) : ∀ n, n < w.length →
    mx w n = w.getD (hiIdx w n) (0, 0, false) ∧ ∀ i, i ≤ n → (w.getD i (0, 0, false)).2.1 ≤ (mx w n).2.1 ∧ ((w.getD i (0, 0, false)).2.1 = (mx w n).2.1 → (mx w n).1 ≤ (w.getD i (0, 0, false)).1)
  | 0, hn => ⟨rfl, fun i hi => by obtain rfl : i = 0 := by omega
                                  exact ⟨Int.le_refl _, fun _ => Int.le_refl _⟩⟩
  | n + 1, hn => by
    obtain ⟨h1, h2⟩ := mx_best hs ho n (by omega)
    have hle := hiIdx_le w n
    have hlt : (mx w n).1 < (w.getD (n + 1) (0, 0, false)).1 := by rw [h1]; exact hs _ _ (by omega) hn
    obtain ⟨a1, a2, a3, a4⟩ := ho (n + 1) hn
    obtain ⟨b1, b2, b3, b4⟩ : okC (mx w n) := by rw [h1]; exact ho _ (by omega)
    have hc : cmpC (w.getD (n + 1) (0, 0, false)) (mx w n) > 0 ↔ (w.getD (n + 1) (0, 0, false)).2.1 > (mx w n).2.1 := by
      unfold cmpC
      split
      · rename_i e
        rw [wrapi (by omega) (by omega)]
        omega
      · rw [wrapi (by omega) (by omega)]
        omega
    have hix : (w.getD (hiIdx w n) (0, 0, false)).2.1 = (mx w n).2.1 := by rw [h1]
    by_cases c : (w.getD (n + 1) (0, 0, false)).2.1 > (mx w n).2.1
    · have e : mx w (n + 1) = w.getD (n + 1) (0, 0, false) := by unfold mx; rw [if_pos (hc.2 c)]
      have e2 : hiIdx w (n + 1) = n + 1 := by unfold hiIdx; rw [if_pos (by rw [hix]; exact c)]
      refine ⟨by rw [e, e2], fun i hi => ?_⟩
      rw [e]
      by_cases hin : i = n + 1
      · subst hin; exact ⟨Int.le_refl _, fun _ => Int.le_refl _⟩
      · have := h2 i (by omega)
        exact ⟨by omega, fun h => by omega⟩
    · have e : mx w (n + 1) = mx w n := by
        show (if cmpC (w.getD (n + 1) (0, 0, false)) (mx w n) > 0 then w.getD (n + 1) (0, 0, false) else mx w n) = mx w n
        rw [if_neg (fun h => c (hc.1 h))]
      have e2 : hiIdx w (n + 1) = hiIdx w n := by
        show (if (w.getD (n + 1) (0, 0, false)).2.1 > (w.getD (hiIdx w n) (0, 0, false)).2.1 then n + 1 else hiIdx w n) = hiIdx w n
        rw [if_neg (by rw [hix]; exact c)]
      refine ⟨by rw [e, e2]; exact h1, fun i hi => ?_⟩
      rw [e]
      by_cases hin : i = n + 1
      · subst hin; exact ⟨by omega, fun _ => by omega⟩
      · exact h2 i (by omega)
/-- One class more. -/
theorem rl_addC {sz : Int} {L : List (Int × Cls)} {w : List Cls} (h : Rl sz L (kv ck w)) (c : Cls) : Rl sz (addL sz L c.1 c) (kv ck (raddK ck w sz c)) ∧ (addE sz L c.1).getD 0 = raddE (kv ck w) sz c.1 := by
  have := h.add (k := c.1) (v := c)
  rw [← raddL_kv]
  exact this
theorem raddK_mem {w : List Cls} {sz : Int} {c d : Cls} (h : d ∈ raddK ck w sz c) : d ∈ w ∨ d = c := by
  unfold raddK at h
  split at h
  · exact .inl h
  · split at h
    · exact .inl h
    · unfold insK at h
      simp only [List.mem_append, List.mem_singleton] at h
      rcases h with (h | h) | h
      · exact .inl ((List.takeWhile_sublist _).subset h)
      · exact .inr h
      · exact .inl ((List.dropWhile_sublist _).subset h)
theorem raddK_ne {w : List Cls} {sz : Int} {c : Cls} (hs : 0 < sz) : raddK ck w sz c ≠ [] := by
  unfold raddK
  split
  · rename_i h
    intro e
    subst e
    simp [rfind, kv] at h
  · split
    · rename_i h
      intro e
      subst e
      simp at h
      omega
    · unfold insK
      simp
end Go.Proofs.YtjljjakfebfpfaaDoor
