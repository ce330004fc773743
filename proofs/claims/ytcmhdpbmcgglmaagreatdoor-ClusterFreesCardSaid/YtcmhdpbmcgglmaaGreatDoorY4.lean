/-
  ClusterFrees: what is free of a node, before and behind.
-/
import Derived.Test.YtcmhdpbmcgglmaaGreatDoorY3
import Derived.Test.YtcmhdpbmcgglmaaGreatDoorH4
section
set_option autoImplicit false
set_option linter.unusedVariables false
set_option linter.unusedSimpArgs false
namespace Go.Proofs.YtcmhdpbmcgglmaaGreatDoor
open Go.Abs
def fvW (w : Rc) (n : Int) : List Int := match findN w.nodes n with
  | none => []
  | some m => List.zipWith (· - ·) m.2 (useOf w.pods m.1)
section
variable {c : Cl} {w : Rc}
theorem RC.freeW (h : RC c w) (n : Int) : freeD (lget c.N n) = some (fvW w n) := by
  rw [h.getN]
  unfold fvW
  cases hm : findN w.nodes n with
  | none => rfl
  | some m =>
    obtain ⟨m1, m2⟩ := findN_some hm
    have hg := h.gn m m1
    have f0 := h.fit m m1 0 (by omega)
    have f1 := h.fit m m1 1 (by omega)
    have u0 := useAt_pos 0 m.1 w.pods h.gp
    have u1 := useAt_pos 1 m.1 w.pods h.gp
    have c0 := hg.at 0
    have c1 := hg.at 1
    show subS m.2 (useOf w.pods m.1) = some (List.zipWith (· - ·) m.2 (useOf w.pods m.1))
    exact subS_yes (by rw [hg.1]; rfl) fun k hk => by
      have hk2 : k = 0 ∨ k = 1 := by have := hg.1; omega
      rcases hk2 with rfl | rfl
      · show useAt 0 w.pods m.1 ≤ _ ∧ _ - useAt 0 w.pods m.1 ≤ _; omega
      · show useAt 1 w.pods m.1 ≤ _ ∧ _ - useAt 1 w.pods m.1 ≤ _; omega
theorem fvW_sz (h : RC c w) (n : Int) : Sz (fvW w n) := by
  unfold fvW Sz
  cases hm : findN w.nodes n with
  | none => exact (by decide : ([] : List Int).length ≤ 1000000)
  | some m =>
    show (List.zipWith _ _ _).length ≤ 1000000
    rw [List.length_zipWith]
    have := (h.gn m (findN_some hm).1).1
    omega
theorem fvW_upd (hn : NoDup (kv pid w.pods)) {p q : Pod} (hp : p ∈ w.pods) (hid : q.1.id = p.1.id) (h1 : ¬ holdsP p.1.ph) (h2 : ¬ holdsP q.1.ph) (n : Int) : fvW { w with pods := updP w.pods q } n = fvW w n := by
  have e : ∀ k m, useAt k (updP w.pods q) m = useAt k w.pods m := fun k m => by rw [use_upd hn hp hid, share_none h1, share_none h2]; omega
  unfold fvW useOf
  simp only [e]
theorem updP_twice {P : List Pod} {a b : Pod} (hid : a.1.id = b.1.id) : updP (updP P a) b = updP P b := by
  unfold updP
  rw [List.map_map]
  refine List.map_congr_left fun x _ => ?_
  show (if (if x.1.id = a.1.id then a else x).1.id = b.1.id then b else (if x.1.id = a.1.id then a else x)) = _
  by_cases hx : x.1.id = a.1.id
  · rw [if_pos hx, if_pos hid, if_pos (hx.trans hid)]
  · rw [if_neg hx]
theorem RC.free_step (h : RC c w) {id : Int} {p : Pod} (hp : findP w.pods id = some p) (hh : holdsP p.1.ph) :
    changeD c id 5 0 = .tup [fP (applyP p 5 5 (-1) 0), .nili] ∧ rcChange w id 5 0 = { w with pods := updP w.pods (applyP p 5 5 (-1) 0) } := by
  have hid := (findP_some hp).2
  have hn : nextP p.1.ph 5 = some 5 := by
    unfold nextP
    unfold holdsP at hh
    rw [if_neg (by omega), if_neg (by omega), if_neg (by omega), if_neg (by omega), if_pos rfl, if_pos (by omega)]
  constructor
  · unfold changeD
    rw [h.get, hp]
    dsimp only
    rw [if_neg (by decide), hn]
    dsimp only
    rw [if_pos ⟨rfl, hh⟩, h.free_ok (by rw [hid]; exact hp) hh]
    rfl
  · unfold rcChange
    rw [hp]
    dsimp only
    rw [if_neg (by decide), hn]
theorem RC.evict_step (h : RC c w) {id : Int} {p : Pod} (hp : findP w.pods id = some p) (hh : p.1.ph = 3) :
    changeD c id 4 5 = .tup [fP (applyP p 4 4 (-1) 5), .nili] ∧ rcChange w id 4 5 = { w with pods := updP w.pods (applyP p 4 4 (-1) 5) } := by
  have hn : nextP p.1.ph 4 = some 4 := by rw [hh]; rfl
  constructor
  · unfold changeD
    rw [h.get, hp]
    dsimp only
    rw [if_neg (by decide), hn]
    dsimp only
    rw [if_neg (fun x => absurd x.1 (by decide))]
    rfl
  · unfold rcChange
    rw [hp]
    dsimp only
    rw [if_neg (by decide), hn]
theorem RC.again (h : RC c w) {id : Int} {p : Pod} (hp : findP w.pods id = some p) (hh : p.1.ph = 5) :
    changeD c id 5 0 = .tup [zP, errF (some (8, 0))] ∧ (clChange c id 5 0).1 = c := by
  have hn : nextP p.1.ph 5 = none := by rw [hh]; rfl
  constructor
  · unfold changeD
    rw [h.get, hp]
    dsimp only
    rw [if_neg (by decide), hn]
  · unfold clChange
    rw [h.get, hp]
    dsimp only
    rw [if_neg (by decide), hn]
end
end Go.Proofs.YtcmhdpbmcgglmaaGreatDoor
end
