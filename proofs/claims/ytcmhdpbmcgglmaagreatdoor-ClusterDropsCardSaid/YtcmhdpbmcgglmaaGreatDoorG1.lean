/-
  The walks of the package filter: the nodes on which a pod fits.
  The walks of the package filter, continued: the first node, the reasons.
  What the package filter answers at a cluster that the reference's stands for.
  The package filter at a cluster that is not there.
  slices.Equal; the examples of the chapter on filters.
-/
import Derived.Test.YtcmhdpbmcgglmaaGreatDoorB3
import Derived.Test.YtcmhdpbmcgglmaaGreatDoorD1
section
set_option autoImplicit false
set_option linter.unusedVariables false
set_option linter.unusedSimpArgs false
namespace Go.Proofs.YtcmhdpbmcgglmaaGreatDoor
open Go.Abs
structure Lds (c : Cl) (p : Pod) (lv : Int → List Int) : Prop where
  ok : ClOk c
  nl : c.N.length ≤ 1000000
  sz : Sz p.2
  ld : ∀ n, LdOk c p n [] (lv n)
noncomputable def fitsB (c : Cl) (p : Pod) (lv : Int → List Int) (m : Int × List Int) : Bool := fitB (totS c p m.1 (lv m.1))
def selN (N : List (Int × List Int)) (h : Int × List Int → Bool) : List Int := (N.filter h).map (·.1)
end Go.Proofs.YtcmhdpbmcgglmaaGreatDoor
end
section
set_option autoImplicit false
set_option linter.unusedVariables false
set_option linter.unusedSimpArgs false
namespace Go.Proofs.YtcmhdpbmcgglmaaGreatDoor
open Go.Abs
theorem below_succ {P : Nat → Prop} {i : Nat} (h : ∀ j, j < i → P j) (hi : P i) : ∀ j, j < i + 1 → P j := fun j hj => by
  by_cases e : j = i
  · exact e ▸ hi
  · exact h j (by omega)
/-! The reasons. -/
def idxQ (l : List Int) : Int := if l.findIdx (fun x => decide (0 < x)) < l.length then l.findIdx (fun x => decide (0 < x)) else -1
def shortL : Option (Option (List Int) × List Int) → List Int
  | some (some s, cap) => List.zipWith (fun x y => max x y - y) s cap
  | _ => []
structure Rss (c : Cl) (p : Pod) (lv : Int → List Int) : Prop extends Lds c p lv where
  len : ∀ n s cap, totS c p n (lv n) = some (some s, cap) → s.length = cap.length ∧ ∀ n ∈ cap, 0 ≤ n
  few : ∀ n, (shortL (totS c p n (lv n))).length ≤ 1000000
noncomputable def rsn (c : Cl) (p : Pod) (lv : Int → List Int) (n : Int) : Int := idxQ (shortL (totS c p n (lv n)))
noncomputable def rsL (c : Cl) (p : Pod) (lv : Int → List Int) (N : List (Int × List Int)) : List (Int × Int) := (N.filter fun m => decide (0 ≤ rsn c p lv m.1)).map fun m => (m.1, rsn c p lv m.1)
end Go.Proofs.YtcmhdpbmcgglmaaGreatDoor
end
section
set_option autoImplicit false
set_option linter.unusedVariables false
set_option linter.unusedSimpArgs false
namespace Go.Proofs.YtcmhdpbmcgglmaaGreatDoor
open Go.Abs
section
variable {c : Cl} {w : Rc}
theorem RC.findN_mem (h : RC c w) {m : Int × List Int} (hm : m ∈ w.nodes) : findN w.nodes m.1 = some m := by
  cases hf : findN w.nodes m.1 with
  | none =>
    unfold findN at hf
    rw [List.find?_eq_none] at hf
    exact absurd (by simp) (hf m hm)
  | some x =>
    obtain ⟨h1, h2⟩ := findN_some hf
    rw [h.same h1 hm h2]
theorem RC.nds (h : RC c w) : ndL c = w.nodes := by
  unfold ndL
  rw [h.nodes.ids, List.map_map, List.map_map]
  conv => rhs; rw [← List.map_id w.nodes]
  refine List.map_congr_left fun m hm => ?_
  show ndOf c m.1 = m
  unfold ndOf
  rw [h.getN, h.findN_mem hm]
  rfl
theorem RC.nl (h : RC c w) : c.N.length ≤ 1000000 := by have := h.nodes.room; omega
noncomputable abbrev lvW (w : Rc) (p : Pod) (n : Int) : List Int := loadV w p n []
theorem two_of {v : List Int} (h : v.length = 2) : v = [v.getD 0 0, v.getD 1 0] := by
  match v, h with
  | [a, b], _ => rfl
theorem idxQ_two (a b : Int) : idxQ [a, b] = if 0 < a then 0 else if 0 < b then 1 else -1 := by
  unfold idxQ
  by_cases ha : 0 < a
  · simp [List.findIdx_cons, ha]
  · by_cases hb : 0 < b <;> simp [List.findIdx_cons, ha, hb]
theorem RC.part (h : RC c w) {p : Pod} (hv : GoodV p.2) {m : Int × List Int} (hm : m ∈ w.nodes) :
    (fitsB c p (lvW w p) m = true ∧ rsn c p (lvW w p) m.1 = -1 ∧ B (FitsP p.2 m.2) = true) ∨ (fitsB c p (lvW w p) m = false ∧ 0 ≤ rsn c p (lvW w p) m.1 ∧ rsn c p (lvW w p) m.1 ≤ 1) := by
  have hgn := h.gn m hm
  have hb0 := load_bd h p m.1 [] 0
  have hb1 := load_bd h p m.1 [] 1
  have hl := two_of (load_len w p m.1 [])
  have ht : totS c p m.1 (lvW w p m.1) = some (some (List.zipWith (· + ·) (loadV w p m.1 []) p.2), m.2) := by
    rw [h.tot, h.findN_mem hm]
    dsimp only
    rw [if_neg hv.ok]
  have hs : List.zipWith (· + ·) (loadV w p m.1 []) p.2 = [(loadV w p m.1 []).getD 0 0 + p.2.getD 0 0, (loadV w p m.1 []).getD 1 0 + p.2.getD 1 0] := by
    conv => lhs; rw [hl, hv.two]
    rfl
  have hc := hgn.two
  obtain ⟨s0, e0⟩ : ∃ x, x = (loadV w p m.1 []).getD 0 0 + p.2.getD 0 0 := ⟨_, rfl⟩
  obtain ⟨s1, e1⟩ : ∃ x, x = (loadV w p m.1 []).getD 1 0 + p.2.getD 1 0 := ⟨_, rfl⟩
  rw [← e0, ← e1] at hs
  rw [hs] at ht
  unfold fitsB rsn
  rw [ht]
  have hF : ∀ u : List Int, u.length = 2 → (FitsP u m.2 ↔ u.getD 0 0 ≤ m.2.getD 0 0 ∧ u.getD 1 0 ≤ m.2.getD 1 0) := fun u hu => by
    constructor
    · intro hf
      exact ⟨hf.2 0 (by omega), hf.2 1 (by omega)⟩
    · intro hf
      refine ⟨by rw [hu, hgn.1], fun k hk => ?_⟩
      have hk2 : k = 0 ∨ k = 1 := by omega
      rcases hk2 with rfl | rfl
      · exact hf.1
      · exact hf.2
  have hI : idxQ (shortL (some (some [s0, s1], m.2))) = if 0 < max s0 (m.2.getD 0 0) - m.2.getD 0 0 then 0 else if 0 < max s1 (m.2.getD 1 0) - m.2.getD 1 0 then 1 else -1 := by
    conv => lhs; rw [hc]
    exact idxQ_two _ _
  rw [hI]
  show (B (FitsP [s0, s1] m.2) = true ∧ _) ∨ (B (FitsP [s0, s1] m.2) = false ∧ _)
  have g0 := hv.at 0
  have g1 := hv.at 1
  by_cases hf : FitsP [s0, s1] m.2
  · left
    have hf' := (hF [s0, s1] rfl).1 hf
    simp only [List.getD_cons_zero, List.getD_cons_succ] at hf'
    refine ⟨B_true hf, ?_, B_true ((hF p.2 hv.1).2 ⟨by omega, by omega⟩)⟩
    rw [if_neg (by omega), if_neg (by omega)]
  · right
    have hf' : ¬ (s0 ≤ m.2.getD 0 0 ∧ s1 ≤ m.2.getD 1 0) := fun x => hf ((hF [s0, s1] rfl).2 x)
    refine ⟨B_false hf, ?_⟩
    by_cases k0 : s0 ≤ m.2.getD 0 0
    · have k1 : ¬ s1 ≤ m.2.getD 1 0 := fun x => hf' ⟨k0, x⟩
      rw [if_neg (by omega), if_pos (by omega)]
      omega
    · rw [if_pos (by omega)]
      omega
theorem RC.parts (h : RC c w) {p : Pod} (hv : GoodV p.2) : (selN w.nodes (fitsB c p (lvW w p))).length + (rsL c p (lvW w p) w.nodes).length = w.nodes.length := by
  have key : ∀ N : List (Int × List Int), (∀ m ∈ N, m ∈ w.nodes) → (selN N (fitsB c p (lvW w p))).length + (rsL c p (lvW w p) N).length = N.length := fun N => by
    induction N with
    | nil => intro _; rfl
    | cons m N ih =>
      intro hm
      have ih' := ih fun x hx => hm x (by simp [hx])
      unfold selN rsL at ih' ⊢
      rw [List.length_map, List.length_map] at ih' ⊢
      rw [List.filter_cons, List.filter_cons]
      rcases h.part hv (hm m (by simp)) with ⟨a, b, _⟩ | ⟨a, b, _⟩
      · rw [a, if_pos rfl, if_neg (by simp [b])]
        simp only [List.length_cons]
        omega
      · rw [a, if_neg (by simp), if_pos (by simp [b])]
        simp only [List.length_cons]
        omega
  exact key w.nodes fun m hm => hm
end
end Go.Proofs.YtcmhdpbmcgglmaaGreatDoor
end
section
set_option autoImplicit false
set_option linter.unusedVariables false
set_option linter.unusedSimpArgs false
namespace Go.Proofs.YtcmhdpbmcgglmaaGreatDoor
open Go.Abs
end Go.Proofs.YtcmhdpbmcgglmaaGreatDoor
end
section
set_option autoImplicit false
set_option linter.unusedVariables false
set_option linter.unusedSimpArgs false
namespace Go.Proofs.YtcmhdpbmcgglmaaGreatDoor
open Go.Abs
def gp : Pod := (⟨1, 0, false, 0, 0, 0, 0, 0⟩, [4])
def gw1 : Cl := ⟨1, [], [], [(7, 7, [5], [0])]⟩
theorem g_add1 : clAdd ⟨max 1 0, [], [], []⟩ 7 [5] = gw1 := by
  unfold clAdd naddL addL gw1
  have : wrongS [5] (max 1 0) = -1 := by decide
  simp only [this]
  rfl
theorem g_addE1 : naddE (max 1 0) 1024 [] 7 [5] = none := by
  unfold naddE
  have : wrongS [5] (max 1 0) = -1 := by decide
  rw [this]
  rfl
theorem fits1 (a b : Int) : B (FitsP [a] [b]) = decide (a ≤ b) := by
  by_cases h : a ≤ b
  · rw [B_true ⟨rfl, fun k hk => by obtain rfl : k = 0 := by simpa using hk
                                    exact h⟩, decide_eq_true h]
  · rw [B_false fun x => h (x.2 0 (by simp)), decide_eq_false h]
end Go.Proofs.YtcmhdpbmcgglmaaGreatDoor
end
