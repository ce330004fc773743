/-
  The reference's little functions on pods and nodes.
  The reference's functions on lists of pods.
  The reference's functions on clusters: what is used, adding a node.
  The reference's functions on clusters: what is used of a node.
  The reference's functions on clusters: placing and changing a pod.
  An event is applied to a pod in both clusters.
  Two clusters are built of nodes, pods and events.
  The walks of the package reserve: whether a pod sees a reservation; lists without some pods.
  The walks of the package reserve, continued: the pods that a pod sees, their sum, its own reservation, all.
  The walks of the package reserve, continued: the sum of the reservations that a pod sees.
  The walks at a cluster that is not there.
  The examples of the chapter on reservations; the reference's Sees.
  What is read of a cluster is what the reference's says.
-/
import Derived.Test.YtmeicgbddgeeoaaGreatDoorB1
import Derived.Test.YtmeicgbddgeeoaaGreatDoorB0
import Derived.Test.YtmeicgbddgeeoaaGreatDoorB2
import Derived.Test.YtmeicgbddgeeoaaGreatDoorA4
section
set_option autoImplicit false
set_option linter.unusedVariables false
set_option linter.unusedSimpArgs false
namespace Go.Proofs.YtmeicgbddgeeoaaGreatDoor
open Go.Abs
def nL (n : Int × List Int) : List D := [.int .i64 n.1, .slice 1 (ints n.2)]
def nds (l : List (Int × List Int)) : List (List D) := l.map nL
def nz : Int × List Int := (0, [])
theorem nds_length (l : List (Int × List Int)) : (nds l).length = l.length := by simp [nds]
attribute [push_cast] nds_length
theorem nds_get {l : List (Int × List Int)} {i : Nat} (h : i < l.length) : (nds l).getD i [] = nL (l.getD i nz) := by simp [nds, List.getD_eq_getElem?_getD, h]
theorem seg_nds {l : List (Int × List Int)} {i : Nat} (h : i < l.length) : seg (nds l) i 0 2 = nL (l.getD i nz) := by unfold seg; rw [nds_get h]; rfl
theorem cel_nds0 {l : List (Int × List Int)} {i : Nat} (h : i < l.length) : cel (nds l) i 0 = .int .i64 (l.getD i nz).1 := by unfold cel; rw [nds_get h]; rfl
theorem cel_nds1 {l : List (Int × List Int)} {i : Nat} (h : i < l.length) : cel (nds l) i 1 = .slice 1 (ints (l.getD i nz).2) := by unfold cel; rw [nds_get h]; rfl
theorem cel_id {l : List Pod} {i : Nat} (h : i < l.length) : cel (pods l) i 0 = .int .i64 (l.getD i pz).1.id := by rw [cel_pods h]; rfl
theorem cel_pr {l : List Pod} {i : Nat} (h : i < l.length) : cel (pods l) i 1 = .int .i64 (l.getD i pz).1.pr := by rw [cel_pods h]; rfl
theorem cel_req {l : List Pod} {i : Nat} (h : i < l.length) : cel (pods l) i 4 = .slice 1 (ints (l.getD i pz).2) := by rw [cel_pods h]; rfl
theorem cel_ph {l : List Pod} {i : Nat} (h : i < l.length) : cel (pods l) i 6 = .int .i64 (l.getD i pz).1.ph := by rw [cel_pods h]; rfl
theorem cel_nd {l : List Pod} {i : Nat} (h : i < l.length) : cel (pods l) i 7 = .int .i64 (l.getD i pz).1.nd := by rw [cel_pods h]; rfl
def fRc (w : Rc) : D := .agg [.int .i64 w.d, .slice 2 (nds w.nodes), .slice 9 (pods w.pods)]
def idxP (l : List Pod) (k : Int) : Int := match l.findIdx? (fun p => p.1.id == k) with
 | some i => i
 | none => -1
theorem idxP_at {l : List Pod} {k : Int} {i : Nat} (h : i < l.length) (he : (l.getD i pz).1.id = k) (hp : ∀ j, j < i → (l.getD j pz).1.id ≠ k) : idxP l k = i := by
 unfold idxP
 have : l.findIdx? (fun p => p.1.id == k) = some i := by
  rw [List.findIdx?_eq_some_iff_getElem]
  refine ⟨h, ?_, fun j hj => ?_⟩
  ·simpa [List.getD_eq_getElem?_getD, h] using he
  ·have := hp j hj
   simpa [List.getD_eq_getElem?_getD, show j < l.length by omega] using this
 rw [this]
theorem idxP_no {l : List Pod} {k : Int} (hp : ∀ j, j < l.length → (l.getD j pz).1.id ≠ k) : idxP l k = -1 := by
 unfold idxP
 have : l.findIdx? (fun p => p.1.id == k) = none := by
  rw [List.findIdx?_eq_none_iff]
  intro p hpm
  obtain ⟨j, hj, rfl⟩ := List.getElem_of_mem hpm
  have := hp j hj
  simpa [List.getD_eq_getElem?_getD, hj] using this
 rw [this]
theorem idxP_none {l : List Pod} {k : Int} : findP l k = none ↔ idxP l k = -1 := by
 unfold findP idxP
 constructor
 ·intro h
  have : l.findIdx? (fun p => p.1.id == k) = none := by
   rw [List.findIdx?_eq_none_iff]
   intro p hp
   simpa using List.find?_eq_none.1 h p hp
  rw [this]
 ·intro h
  cases hf : l.findIdx? (fun p => p.1.id == k) with
  | none =>
   rw [List.find?_eq_none]
   intro p hp
   simpa using List.findIdx?_eq_none_iff.1 hf p hp
  | some i => rw [hf] at h; simp at h
theorem idxP_some {l : List Pod} {k : Int} {p : Pod} (h : findP l k = some p) : ∃ i : Nat, idxP l k = i ∧ i < l.length ∧ l.getD i pz = p ∧ ∀ j, j < i → (l.getD j pz).1.id ≠ k := by
 unfold findP at h
 unfold idxP
 cases hf : l.findIdx? (fun p => p.1.id == k) with
 | none =>
  have := List.findIdx?_eq_none_iff.1 hf p (List.mem_of_find?_eq_some h)
  have h2 := List.find?_some h
  rw [this] at h2; cases h2
 | some i =>
  obtain ⟨hi, h1, h2⟩ := List.findIdx?_eq_some_iff_getElem.1 hf
  refine ⟨i, rfl, hi, ?_, fun j hj => ?_⟩
  ·have : l.find? (fun p => p.1.id == k) = some l[i] := by
    rw [List.find?_eq_some_iff_getElem]
    exact ⟨h1, i, hi, rfl, fun j hj => by simpa using h2 j hj⟩
   rw [this] at h
   rw [List.getD_eq_getElem?_getD, List.getElem?_eq_getElem hi]
   exact Option.some.inj h
  ·have := h2 j hj
   rw [List.getD_eq_getElem?_getD, List.getElem?_eq_getElem (show j < l.length by omega)]
   simpa using this
theorem find07_ok (l : List Pod) (k : Int) (hl : Sz l) : PCall env 121 [.slice 9 (pods l), .int .i64 k] (.int .i64 (idxP l k)) := by
 refine acalls_of envOk Tryz.func121 rfl (by kernel_rfl) (m := 18) rfl ?_
 simp only [push_cast, simprocAttr]
 refine ALoop.mk (fun n t H ds => ∃ i : Nat, n = l.length - i ∧ i ≤ l.length ∧ (∀ j, j < i → (l.getD j pz).1.id ≠ k) ∧ t = (.d (.slice 9 (pods l)) :: .d (.int .i64 k) :: .x :: .x :: .d (.int .i64 0) :: .d (.int .i64 (i : Nat)) :: xs14) ∧ H = [] ∧ ds = []) l.length
  (WK.fgt (t' := (.d (.slice 9 (pods l)) :: .d (.int .i64 k) :: .x :: .x :: .d (.int .i64 0) :: .d (.int .i64 (0 : Nat)) :: xs14)) (by simp [fgt]) (WK.now ⟨0, by omega, by omega, by omega, rfl, rfl, rfl⟩)) ?_
 rintro n t H ds ⟨i, rfl, hi, hp, rfl, rfl, rfl⟩
 simp only [push_cast, simprocAttr]
 refine Kbr.mk (fun c => ?_) (fun c => ?_)
 ·have c2 : i < l.length := by simpa using c
  simp only [c2, cel_id, push_cast, simprocAttr]
  refine Kbr.mk (fun c => ?_) (fun c => ?_)
  ·have c3 : (l.getD i pz).1.id = k := by simpa using c
   simp only [push_cast, simprocAttr]
   refine WK.now ?_
   simp only [idxP_at c2 c3 hp, push_cast, simprocAttr, pods_length, nds_length]
  ·have c3 : (l.getD i pz).1.id ≠ k := by simpa using c
   simp only [succ64 c2 (Nat.le_trans hl (by omega)), push_cast, simprocAttr, pods_length, nds_length]
   refine ⟨l.length - (i + 1), by omega, WK.fgt (t' := (.d (.slice 9 (pods l)) :: .d (.int .i64 k) :: .x :: .x :: .d (.int .i64 0) :: .d (.int .i64 (i + 1 : Nat)) :: xs14)) (by simp [fgt]) (WK.now ⟨i + 1, rfl, by omega, fun j hj => ?_, rfl, rfl, rfl⟩)⟩
   rcases Nat.lt_succ_iff_lt_or_eq.1 hj with hj | rfl
   ·exact hp j hj
   ·exact c3
 ·have c2 : ¬ i < l.length := by simpa using c
  simp only [push_cast, simprocAttr]
  refine WK.now ?_
  simp only [idxP_no (fun j hj => hp j (by omega)), push_cast, simprocAttr, pods_length, nds_length]
abbrev nk (n : Int × List Int) : Int := n.1
theorem kvN_find {l : List (Int × List Int)} {k : Int} {i : Nat} (h : i < l.length) (he : (l.getD i nz).1 = k) (hp : ∀ j, j < i → (l.getD j nz).1 ≠ k) : rfind (kv nk l) k = i := by
 unfold rfind
 have : (kv nk l).findIdx? (fun p => k == p.1) = some i := by
  rw [List.findIdx?_eq_some_iff_getElem]
  refine ⟨by rw [kv_length]; exact h, ?_, fun j hj => ?_⟩
  ·simp [kv]
   simpa [List.getD_eq_getElem?_getD, h] using he.symm
  ·have := hp j hj
   simp [kv]
   intro e
   exact this (by simpa [List.getD_eq_getElem?_getD, show j < l.length by omega] using e.symm)
 rw [this]
theorem kvN_nofind {l : List (Int × List Int)} {k : Int} (hp : ∀ j, j < l.length → (l.getD j nz).1 ≠ k) : rfind (kv nk l) k = -1 := by
 unfold rfind
 have : (kv nk l).findIdx? (fun p => k == p.1) = none := by
  rw [List.findIdx?_eq_none_iff]
  intro p hpm
  obtain ⟨c, hc, rfl⟩ := List.mem_map.1 hpm
  obtain ⟨j, hj⟩ := List.mem_iff_getElem?.1 hc
  have hlt := (List.getElem?_eq_some_iff.1 hj).1
  have := hp j hlt
  simp only [List.getD_eq_getElem?_getD, hj, Option.getD_some] at this
  simpa using fun e => this e.symm
 rw [this]
theorem find14_ok (w : Rc) (k : Int) (hl : Sz w.nodes) : PCall env 60 [fRc w, .int .i64 k] (.int .i64 (rfind (kv nk w.nodes) k)) := by
 unfold fRc
 refine acalls_of envOk Tryz.func60 rfl (by kernel_rfl) (m := 20) rfl ?_
 simp only [push_cast, simprocAttr]
 refine ALoop.mk (fun n t H ds => ∃ i : Nat, n = w.nodes.length - i ∧ i ≤ w.nodes.length ∧ (∀ j, j < i → (w.nodes.getD j nz).1 ≠ k) ∧ t = (.x :: .d (.int .i64 k) :: .pvar 0 0 :: .x :: .d (.int .i64 0) :: .d (.int .i64 (i : Nat)) :: xs16) ∧ H = [.var [.d (.int .i64 w.d), .d (.slice 2 (nds w.nodes)), .d (.slice 9 (pods w.pods))]] ∧ ds = []) w.nodes.length
  (WK.fgt (t' := (.x :: .d (.int .i64 k) :: .pvar 0 0 :: .x :: .d (.int .i64 0) :: .d (.int .i64 (0 : Nat)) :: xs16)) (by simp [fgt]) (WK.now ⟨0, by omega, by omega, by omega, rfl, rfl, rfl⟩)) ?_
 rintro n t H ds ⟨i, rfl, hi, hp, rfl, rfl, rfl⟩
 simp only [push_cast, simprocAttr]
 refine Kbr.mk (fun c => ?_) (fun c => ?_)
 ·have c2 : i < w.nodes.length := by simpa using c
  simp only [c2, cel_nds0, push_cast, simprocAttr]
  refine Kbr.mk (fun c => ?_) (fun c => ?_)
  ·have c3 : (w.nodes.getD i nz).1 = k := by simpa using c
   simp only [push_cast, simprocAttr]
   refine WK.now ?_
   simp only [kvN_find c2 c3 hp, push_cast, simprocAttr, pods_length, nds_length]
  ·have c3 : (w.nodes.getD i nz).1 ≠ k := by simpa using c
   simp only [succ64 c2 (Nat.le_trans hl (by omega)), push_cast, simprocAttr, pods_length, nds_length]
   refine ⟨w.nodes.length - (i + 1), by omega, WK.fgt (t' := (.x :: .d (.int .i64 k) :: .pvar 0 0 :: .x :: .d (.int .i64 0) :: .d (.int .i64 (i + 1 : Nat)) :: xs16)) (by simp [fgt]) (WK.now ⟨i + 1, rfl, by omega, fun j hj => ?_, rfl, rfl, rfl⟩)⟩
   rcases Nat.lt_succ_iff_lt_or_eq.1 hj with hj | rfl
   ·exact hp j hj
   ·exact c3
 ·have c2 : ¬ i < w.nodes.length := by simpa using c
  simp only [push_cast, simprocAttr]
  refine WK.now ?_
  simp only [kvN_nofind (fun j hj => hp j (by omega)), push_cast, simprocAttr, pods_length, nds_length]
def okP (p : Pod) : Prop := -1073741824 ≤ p.1.pr ∧ p.1.pr ≤ 1073741824 ∧ p.2.length ≤ 20
def FewP (l : List Pod) : Prop := (∀ j, j < l.length → okP (l.getD j pz)) ∧ l.length ≤ 100
set_option maxRecDepth 4000 in
theorem few_ok (l : List Pod) (hl : l.length ≤ 9223372036854775807) : PCall env 13 [.slice 9 (pods l)] (.bool (B (FewP l))) := by
 refine acalls_of envOk Tryz.func13 rfl (by kernel_rfl) (m := 35) rfl ?_
 simp only [push_cast, simprocAttr]
 refine ALoop.mk (fun k t H ds => ∃ i : Nat, k = l.length - i ∧ i ≤ l.length ∧ (∀ j, j < i → okP (l.getD j pz)) ∧ t = (.d (.slice 9 (pods l)) :: .x :: .d (.bool false) :: .d (.int .i64 (i : Nat)) :: xs32) ∧ H = [] ∧ ds = []) l.length
  (WK.fgt (t' := (.d (.slice 9 (pods l)) :: .x :: .d (.bool false) :: .d (.int .i64 (0 : Nat)) :: xs32)) (by simp [fgt]) (WK.now ⟨0, by omega, by omega, by omega, rfl, rfl, rfl⟩)) ?_
 rintro k t H ds ⟨i, rfl, hi, hp, rfl, rfl, rfl⟩
 simp only [push_cast, simprocAttr]
 refine Kbr.mk (fun c => ?_) (fun c => ?_)
 ·have c2 : i < l.length := by simpa using c
  have sc : IntKind.wrap .i64 ((i : Int) + 1) = ((i + 1 : Nat) : Int) := by rw [wrapi (by omega) (by omega)]; rfl
  have bad : ¬ okP (l.getD i pz) → B (FewP l) = false := fun h => B_false fun h' => h (h'.1 i c2)
  by_cases h1 : (l.getD i pz).1.pr < -1073741824
  ·simp only [c2, cel_pr, cel_req, decide_eq_true h1, push_cast, simprocAttr, pods_length, nds_length]
   refine WK.now ?_
   simp only [push_cast, simprocAttr]
   rw [bad (fun h => by have := h.1; omega)]
  ·by_cases h2 : (l.getD i pz).1.pr > 1073741824
   ·simp only [c2, cel_pr, cel_req, decide_eq_false h1, decide_eq_true h2, push_cast, simprocAttr, pods_length, nds_length]
    refine WK.now ?_
    simp only [push_cast, simprocAttr]
    rw [bad (fun h => by have := h.2.1; omega)]
   ·by_cases h3 : ((l.getD i pz).2.length : Int) > 20
    ·simp only [c2, cel_pr, cel_req, decide_eq_false h1, decide_eq_false h2, decide_eq_true h3, push_cast, simprocAttr, pods_length, nds_length]
     refine WK.now ?_
     simp only [push_cast, simprocAttr]
     rw [bad (fun h => by have := h.2.2; omega)]
    ·simp only [c2, cel_pr, cel_req, decide_eq_false h1, decide_eq_false h2, decide_eq_false h3, sc, push_cast, simprocAttr, pods_length, nds_length]
     refine ⟨l.length - (i + 1), by omega, WK.fgt (t' := (.d (.slice 9 (pods l)) :: .x :: .d (.bool false) :: .d (.int .i64 (i + 1 : Nat)) :: xs32)) (by simp [fgt]) (WK.now ⟨i + 1, rfl, by omega, fun j hj => ?_, rfl, rfl, rfl⟩)⟩
     rcases Nat.lt_succ_iff_lt_or_eq.1 hj with hj | rfl
     ·exact hp j hj
     ·exact ⟨by omega, by omega, by omega⟩
 ·have c2 : ¬ i < l.length := by simpa using c
  simp only [push_cast, simprocAttr]
  refine WK.now ?_
  simp only [push_cast, simprocAttr]
  by_cases h : l.length ≤ 100
  ·rw [B_true ⟨fun j hj => hp j (by omega), h⟩, decide_eq_true (by omega)]
  ·rw [B_false (fun h' => h h'.2), decide_eq_false (by omega)]
theorem next05_ok (p q : Int) : PCall env 127 [.int .i64 p, .int .i64 q] (.int .i64 ((nextP p q).getD 0)) := by
 refine acalls_of envOk Tryz.func127 rfl (by kernel_rfl) (m := 36) rfl ?_
 by_cases h1 : q = 1
 ·subst h1
  by_cases a1 : p = 1
  ·subst a1; simp only [push_cast, simprocAttr]; refine WK.now ?_; simp only [push_cast, simprocAttr]; rfl
  ·have b1 : (p == 1) = false := by simpa using a1
   by_cases a2 : p = 2
   ·subst a2; simp only [b1, push_cast, simprocAttr]; refine WK.now ?_; simp only [push_cast, simprocAttr]; rfl
   ·have b2 : (p == 2) = false := by simpa using a2
    simp only [b1, b2, push_cast, simprocAttr]; refine WK.now ?_; simp only [push_cast, simprocAttr]
    rw [show nextP p 1 = none by simp [nextP, a1, a2]]; rfl
 ·have c1 : (q == 1) = false := by simpa using h1
  by_cases h2 : q = 2
  ·subst h2
   by_cases a1 : p = 1
   ·subst a1; simp only [c1, push_cast, simprocAttr]; refine WK.now ?_; simp only [push_cast, simprocAttr]; rfl
   ·have b1 : (p == 1) = false := by simpa using a1
    by_cases a2 : p = 2
    ·subst a2; simp only [c1, b1, push_cast, simprocAttr]; refine WK.now ?_; simp only [push_cast, simprocAttr]; rfl
    ·have b2 : (p == 2) = false := by simpa using a2
     simp only [c1, b1, b2, push_cast, simprocAttr]; refine WK.now ?_; simp only [push_cast, simprocAttr]
     rw [show nextP p 2 = none by simp [nextP, a1, a2]]; rfl
  ·have c2 : (q == 2) = false := by simpa using h2
   by_cases h3 : q = 3
   ·subst h3
    by_cases a2 : p = 2
    ·subst a2; simp only [c1, c2, push_cast, simprocAttr]; refine WK.now ?_; simp only [push_cast, simprocAttr]; rfl
    ·have b2 : (p == 2) = false := by simpa using a2
     simp only [c1, c2, b2, push_cast, simprocAttr]; refine WK.now ?_; simp only [push_cast, simprocAttr]
     rw [show nextP p 3 = none by simp [nextP, a2]]; rfl
   ·have c3 : (q == 3) = false := by simpa using h3
    by_cases h4 : q = 4
    ·subst h4
     by_cases a3 : p = 3
     ·subst a3; simp only [c1, c2, c3, push_cast, simprocAttr]; refine WK.now ?_; simp only [push_cast, simprocAttr]; rfl
     ·have b3 : (p == 3) = false := by simpa using a3
      simp only [c1, c2, c3, b3, push_cast, simprocAttr]; refine WK.now ?_; simp only [push_cast, simprocAttr]
      rw [show nextP p 4 = none by simp [nextP, a3]]; rfl
    ·have c4 : (q == 4) = false := by simpa using h4
     by_cases h5 : q = 5
     ·subst h5
      by_cases a1 : p ≥ 1
      ·by_cases a2 : p ≤ 4
       ·simp only [c1, c2, c3, c4, decide_eq_true a1, decide_eq_true a2, push_cast, simprocAttr, pods_length, nds_length]; refine WK.now ?_; simp only [push_cast, simprocAttr]
        rw [show nextP p 5 = some 5 by simp [nextP]; omega]; rfl
       ·simp only [c1, c2, c3, c4, decide_eq_true a1, decide_eq_false a2, push_cast, simprocAttr, pods_length, nds_length]; refine WK.now ?_; simp only [push_cast, simprocAttr]
        rw [show nextP p 5 = none by simp [nextP]; omega]; rfl
      ·simp only [c1, c2, c3, c4, decide_eq_false a1, push_cast, simprocAttr, pods_length, nds_length]; refine WK.now ?_; simp only [push_cast, simprocAttr]
       rw [show nextP p 5 = none by simp [nextP]; omega]; rfl
     ·have c5 : (q == 5) = false := by simpa using h5
      simp only [c1, c2, c3, c4, c5, push_cast, simprocAttr]; refine WK.now ?_; simp only [push_cast, simprocAttr]
      rw [show nextP p q = none by simp [nextP, h1, h2, h3, h4, h5]]; rfl
end Go.Proofs.YtmeicgbddgeeoaaGreatDoor
end
section
set_option autoImplicit false
set_option linter.unusedVariables false
set_option linter.unusedSimpArgs false
namespace Go.Proofs.YtmeicgbddgeeoaaGreatDoor
open Go.Abs
def sub13 (l : List Pod) (size : Int) (p : Pod) : List Pod × Int :=
 if 0 ≤ idxP l p.1.id then (l, 6) else if size ≤ l.length then (l, 7) else (l ++ [submitP p l.length], 0)
set_option maxRecDepth 8000 in
theorem sub13_ok (l : List Pod) (size : Int) (p : Pod) (hl : Sz l) : PCall env 77 [.slice 9 (pods l), .int .i64 size, fP p] (.tup [.slice 9 (pods (sub13 l size p).1), .int .i64 (sub13 l size p).2]) := by
 unfold fP pL
 refine acalls_of envOk Tryz.func77 rfl (by kernel_rfl) (m := 28) rfl ?_
 simp only [push_cast, simprocAttr]
 refine (find07_ok l p.1.id hl).go (by first | exact ⟨.inl rfl, trivial⟩ | exact ⟨.inl rfl, .inl rfl, trivial⟩ | exact ⟨.inl rfl, .inl rfl, .inl rfl, trivial⟩ | simp [argsOk, argOk, sl, sll]) (WK.now ?_)
 simp only [push_cast, simprocAttr]
 unfold sub13
 refine Kbr.mk (fun c1 => ?_) (fun c1 => ?_)
 ·have c2 : 0 ≤ idxP l p.1.id := of_decide_eq_true c1
  simp only [push_cast, simprocAttr]
  refine WK.now ?_
  simp only [c2, if_true, push_cast, simprocAttr]
 ·have c2 : ¬ 0 ≤ idxP l p.1.id := of_decide_eq_false c1
  simp only [push_cast, simprocAttr]
  refine Kbr.mk (fun c3 => ?_) (fun c3 => ?_)
  ·have c4 : size ≤ l.length := of_decide_eq_true c3
   simp only [push_cast, simprocAttr]
   refine WK.now ?_
   simp only [c2, c4, if_true, if_false, push_cast, simprocAttr]
  ·have c4 : ¬ size ≤ l.length := of_decide_eq_false c3
   simp only [push_cast, simprocAttr]
   refine DRegL.det [2, 5] [0, 1, 3, 4] [(2, [3, 4], []), (5, [], [6, 7])] (by kernel_rfl) (by kernel_rfl) (by kernel_rfl) ?_
   simp only [push_cast, simprocAttr]
   unfold Sz at hl
   refine ⟨.inr trivial, room_of (by omega) (by omega), room_of (by omega) (by omega), WK.frz 2 rfl (WK.now ?_)⟩
   simp only [c2, c4, if_false, ← pods_snoc, submitP, push_cast, simprocAttr, pods_length, nds_length]
   rfl
def app13 (l : List Pod) (k e node dl : Int) : List Pod × Int := match findP l k with
 | none => (l, 5)
 | some p => match nextP p.1.ph e with
  | none => (l, 8)
  | some to => (updP l (applyP p e to node dl), 0)
theorem nextP_pos {p e to : Int} (h : nextP p e = some to) : to ≠ 0 ∧ 1 ≤ to := by
 unfold nextP at h
 repeat' split at h
 all_goals first | (cases h; done) | (obtain rfl := Option.some.inj h; omega)
theorem pods_set {l : List Pod} {i : Nat} {q : Pod} {x : List D} (h : i < l.length) (e : x = pL q) : (pods l).set i x = pods (l.set i q) := by
 subst e; simp [pods, List.map_set]
theorem upd_ph {l : List Pod} {i : Nat} {n : Int} (h : i < l.length) : updN (pods l) i 6 [.int .i64 n] = pods (l.set i ({ (l.getD i pz).1 with ph := n }, (l.getD i pz).2)) := by
 unfold updN; rw [pods_get h]; exact pods_set h rfl
theorem upd_nd {l : List Pod} {i : Nat} {n : Int} (h : i < l.length) : updN (pods l) i 7 [.int .i64 n] = pods (l.set i ({ (l.getD i pz).1 with nd := n }, (l.getD i pz).2)) := by
 unfold updN; rw [pods_get h]; exact pods_set h rfl
theorem upd_dl {l : List Pod} {i : Nat} {n : Int} (h : i < l.length) : updN (pods l) i 8 [.int .i64 n] = pods (l.set i ({ (l.getD i pz).1 with dl := n }, (l.getD i pz).2)) := by
 unfold updN; rw [pods_get h]; exact pods_set h rfl
theorem set_get {l : List Pod} {i : Nat} {q : Pod} (h : i < l.length) : (l.set i q).getD i pz = q := by
 rw [List.getD_eq_getElem?_getD, List.getElem?_set_self h]; rfl
theorem set_upd {l : List Pod} {i : Nat} {q : Pod} (hn : NoDup (kv pid l)) (h : i < l.length) (he : q.1.id = (l.getD i pz).1.id) : l.set i q = updP l q := by
 unfold NoDup at hn
 rw [kv_keys] at hn
 have hp := List.pairwise_iff_getElem.1 hn
 rw [List.getD_eq_getElem?_getD, List.getElem?_eq_getElem h, Option.getD_some] at he
 refine List.ext_getElem (by simp [updP]) fun j h1 h2 => ?_
 have hj : j < l.length := by simpa using h1
 rw [List.getElem_set]
 simp only [updP, List.getElem_map]
 by_cases hij : i = j
 ·subst hij; rw [if_pos rfl, if_pos he.symm]
 ·rw [if_neg hij, if_neg]
  intro e
  rcases Nat.lt_or_gt_of_ne hij with hlt | hlt
  ·exact hp i j (by simpa using h) (by simpa using hj) hlt (by simp [pid, ← he, e])
  ·exact hp j i (by simpa using hj) (by simpa using h) hlt (by simp [pid, ← he, e])
theorem nextP_ev {p e to : Int} (h : nextP p e = some to) : e = 1 ∨ e = 2 ∨ e = 3 ∨ e = 4 ∨ e = 5 := by
 unfold nextP at h
 by_cases h1 : e = 1
 ·exact .inl h1
 ·by_cases h2 : e = 2
  ·exact .inr (.inl h2)
  ·by_cases h3 : e = 3
   ·exact .inr (.inr (.inl h3))
   ·by_cases h4 : e = 4
    ·exact .inr (.inr (.inr (.inl h4)))
    ·by_cases h5 : e = 5
     ·exact .inr (.inr (.inr (.inr h5)))
     ·rw [if_neg h1, if_neg h2, if_neg h3, if_neg h4, if_neg h5] at h; cases h
set_option maxRecDepth 8000 in
theorem app13_ok (l : List Pod) (k e node dl : Int) (hl : Sz l) (hnd : NoDup (kv pid l)) : PCall env 128 [.slice 9 (pods l), .int .i64 k, .int .i64 e, .int .i64 node, .int .i64 dl] (.tup [.slice 9 (pods (app13 l k e node dl).1), .int .i64 (app13 l k e node dl).2]) := by
 refine acalls_of envOk Tryz.func128 rfl (by kernel_rfl) (m := 67) rfl ?_
 simp only [push_cast, simprocAttr]
 refine (find07_ok l k hl).go (by first | exact ⟨.inl rfl, trivial⟩ | exact ⟨.inl rfl, .inl rfl, trivial⟩ | exact ⟨.inl rfl, .inl rfl, .inl rfl, trivial⟩ | simp [argsOk, argOk, sl, sll]) (WK.now ?_)
 unfold app13
 cases hf : findP l k with
 | none =>
  rw [idxP_none.1 hf]
  simp only [push_cast, simprocAttr]
  refine WK.now ?_
  simp only [push_cast, simprocAttr]
 | some p =>
  obtain ⟨i, hi, hil, hip, hpre⟩ := idxP_some hf
  have hb : decide ((i : Int) < 0) = false := decide_eq_false (by omega)
  rw [hi]
  simp only [hb, hil, cel_ph, hip, push_cast, simprocAttr]
  refine (next05_ok p.1.ph e).go (by first | exact ⟨.inl rfl, trivial⟩ | exact ⟨.inl rfl, .inl rfl, trivial⟩ | exact ⟨.inl rfl, .inl rfl, .inl rfl, trivial⟩ | simp [argsOk, argOk, sl, sll]) (WK.now ?_)
  cases hn : nextP p.1.ph e with
  | none =>
   simp only [Option.getD_none, push_cast, simprocAttr, pods_length, nds_length]
   refine WK.now ?_
   simp only [push_cast, simprocAttr]
  | some to =>
   have h0 : (to == 0) = false := by simpa using (nextP_pos hn).1
   have hid : ∀ q : Pd, q.id = p.1.id → q.id = (l.getD i pz).1.id := fun q h => by rw [hip]; exact h
   unfold Sz at hl
   have hr : room l.length 88 := room_of (by omega) (by omega)
   rcases nextP_ev hn with he | he | he | he | he <;> subst he
   ·simp only [Option.getD_some, h0, hil, upd_ph, upd_dl, upd_nd, set_get, List.length_set, List.set_set, pods_length, hip, show ((1 : Int) == 2) = false from rfl, show ((1 : Int) == 3) = false from rfl, show ((1 : Int) == 4) = false from rfl, show ((1 : Int) == 5) = false from rfl, push_cast, simprocAttr, pods_length, nds_length]
    refine ⟨.inr trivial, hr, ?_⟩
    try simp only [hil, upd_ph, upd_dl, upd_nd, set_get, List.length_set, List.set_set, pods_length, hip, show ((1 : Int) == 2) = false from rfl, show ((1 : Int) == 3) = false from rfl, show ((1 : Int) == 4) = false from rfl, show ((1 : Int) == 5) = false from rfl, push_cast, simprocAttr, pods_length, nds_length]
    refine WK.frz 0 rfl (WK.now ?_)
    simp only [push_cast, simprocAttr]
    rw [← set_upd (q := applyP p 1 to node dl) hnd hil (by rw [hip]; rfl)]
    rfl
   ·simp only [Option.getD_some, h0, hil, upd_ph, upd_dl, upd_nd, set_get, List.length_set, List.set_set, pods_length, hip, show ((2 : Int) == 1) = false from rfl, show ((2 : Int) == 3) = false from rfl, show ((2 : Int) == 4) = false from rfl, show ((2 : Int) == 5) = false from rfl, push_cast, simprocAttr, pods_length, nds_length]
    refine ⟨.inr trivial, hr, ?_⟩
    try simp only [hil, upd_ph, upd_dl, upd_nd, set_get, List.length_set, List.set_set, pods_length, hip, show ((2 : Int) == 1) = false from rfl, show ((2 : Int) == 3) = false from rfl, show ((2 : Int) == 4) = false from rfl, show ((2 : Int) == 5) = false from rfl, push_cast, simprocAttr, pods_length, nds_length]
    refine WK.frz 0 rfl (WK.now ?_)
    simp only [push_cast, simprocAttr]
    rw [← set_upd (q := applyP p 2 to node dl) hnd hil (by rw [hip]; rfl)]
    rfl
   ·simp only [Option.getD_some, h0, hil, upd_ph, upd_dl, upd_nd, set_get, List.length_set, List.set_set, pods_length, hip, show ((3 : Int) == 1) = false from rfl, show ((3 : Int) == 2) = false from rfl, show ((3 : Int) == 4) = false from rfl, show ((3 : Int) == 5) = false from rfl, push_cast, simprocAttr, pods_length, nds_length]
    refine ⟨.inr trivial, hr, ?_⟩
    try simp only [hil, upd_ph, upd_dl, upd_nd, set_get, List.length_set, List.set_set, pods_length, hip, show ((3 : Int) == 1) = false from rfl, show ((3 : Int) == 2) = false from rfl, show ((3 : Int) == 4) = false from rfl, show ((3 : Int) == 5) = false from rfl, push_cast, simprocAttr, pods_length, nds_length]
    refine WK.frz 0 rfl (WK.now ?_)
    simp only [push_cast, simprocAttr]
    rw [← set_upd (q := applyP p 3 to node dl) hnd hil (by rw [hip]; rfl)]
    rfl
   ·simp only [Option.getD_some, h0, hil, upd_ph, upd_dl, upd_nd, set_get, List.length_set, List.set_set, pods_length, hip, show ((4 : Int) == 1) = false from rfl, show ((4 : Int) == 2) = false from rfl, show ((4 : Int) == 3) = false from rfl, show ((4 : Int) == 5) = false from rfl, push_cast, simprocAttr, pods_length, nds_length]
    refine ⟨.inr trivial, hr, ?_⟩
    try simp only [hil, upd_ph, upd_dl, upd_nd, set_get, List.length_set, List.set_set, pods_length, hip, show ((4 : Int) == 1) = false from rfl, show ((4 : Int) == 2) = false from rfl, show ((4 : Int) == 3) = false from rfl, show ((4 : Int) == 5) = false from rfl, push_cast, simprocAttr, pods_length, nds_length]
    refine WK.frz 0 rfl (WK.now ?_)
    simp only [push_cast, simprocAttr]
    rw [← set_upd (q := applyP p 4 to node dl) hnd hil (by rw [hip]; rfl)]
    rfl
   ·simp only [Option.getD_some, h0, hil, upd_ph, upd_dl, upd_nd, set_get, List.length_set, List.set_set, pods_length, hip, show ((5 : Int) == 1) = false from rfl, show ((5 : Int) == 2) = false from rfl, show ((5 : Int) == 3) = false from rfl, show ((5 : Int) == 4) = false from rfl, push_cast, simprocAttr, pods_length, nds_length]
    refine ⟨.inr trivial, hr, ?_⟩
    try simp only [hil, upd_ph, upd_dl, upd_nd, set_get, List.length_set, List.set_set, pods_length, hip, show ((5 : Int) == 1) = false from rfl, show ((5 : Int) == 2) = false from rfl, show ((5 : Int) == 3) = false from rfl, show ((5 : Int) == 4) = false from rfl, push_cast, simprocAttr, pods_length, nds_length]
    refine WK.frz 0 rfl (WK.now ?_)
    simp only [push_cast, simprocAttr]
    rw [← set_upd (q := applyP p 5 to node dl) hnd hil (by rw [hip]; rfl)]
    rfl
end Go.Proofs.YtmeicgbddgeeoaaGreatDoor
end
section
set_option autoImplicit false
set_option linter.unusedVariables false
set_option linter.unusedSimpArgs false
namespace Go.Proofs.YtmeicgbddgeeoaaGreatDoor
open Go.Abs
def sub14 (w : Rc) (p : Pod) : Int × Int := if 0 ≤ wrongS p.2 (max w.d 0) then (3, wrongS p.2 (max w.d 0)) else ((sub13 w.pods 65536 p).2, 0)
theorem rcSubmit_eq (w : Rc) (p : Pod) : rcSubmit w p = if 0 ≤ wrongS p.2 (max w.d 0) then w else { w with pods := (sub13 w.pods 65536 p).1 } := by
 unfold rcSubmit
 split
 ·rfl
 ·unfold sub13
  have e : (findP w.pods p.1.id).isSome = decide (0 ≤ idxP w.pods p.1.id) := by
   cases hf : findP w.pods p.1.id with
   | none => rw [idxP_none.1 hf]; rfl
   | some q =>
    obtain ⟨i, hi, _⟩ := idxP_some hf
    rw [hi, decide_eq_true (by omega)]; rfl
  rw [e]
  by_cases h : 0 ≤ idxP w.pods p.1.id
  ·rw [if_pos (decide_eq_true h), if_pos h]
  ·rw [if_neg (by simpa using h), if_neg h]
   by_cases h2 : 65536 ≤ w.pods.length
   ·rw [if_pos h2, if_pos (by omega)]
   ·rw [if_neg h2, if_neg (by omega)]
set_option maxRecDepth 8000 in
theorem sub14_ok (w : Rc) (p : Pod) (hl : Sz w.pods) (hp : p.2.length ≤ 9223372036854775807) :
  PCall env 41 [fRc w, fP p] (.tup [fRc (rcSubmit w p), .int .i64 (sub14 w p).1, .int .i64 (sub14 w p).2]) := by
 rw [rcSubmit_eq]
 unfold fRc fP pL
 refine acalls_of envOk Tryz.func41 rfl (by kernel_rfl) (m := 29) rfl ?_
 simp only [push_cast, simprocAttr]
 refine (rwrong_ok p.2 (max w.d 0) hp).go (by first | exact ⟨.inl rfl, trivial⟩ | exact ⟨.inl rfl, .inl rfl, trivial⟩ | exact ⟨.inl rfl, .inl rfl, .inl rfl, trivial⟩ | simp [argsOk, argOk, sl, sll]) (WK.now ?_)
 simp only [push_cast, simprocAttr]
 by_cases h : 0 ≤ wrongS p.2 (max w.d 0)
 ·have hb : decide (wrongS p.2 (max w.d 0) ≥ 0) = true := decide_eq_true h
  simp only [hb, push_cast, simprocAttr]
  refine WK.now ?_
  simp only [sub14, h, if_true, push_cast, simprocAttr]
 ·have hb : decide (wrongS p.2 (max w.d 0) ≥ 0) = false := decide_eq_false h
  simp only [hb, push_cast, simprocAttr]
  refine (sub13_ok w.pods 65536 p hl).go (by first | exact ⟨.inl rfl, trivial⟩ | exact ⟨.inl rfl, .inl rfl, trivial⟩ | exact ⟨.inl rfl, .inl rfl, .inl rfl, trivial⟩ | simp [argsOk, argOk, sl, sll]) (WK.now ?_)
  simp only [push_cast, simprocAttr]
  refine WK.now ?_
  simp only [sub14, h, if_false, push_cast, simprocAttr]
theorem insN_rows {l : List (Int × List Int)} {c : Int × List Int} {i : Nat} (hs : (kv nk l).Pairwise (fun a b => a.1 < b.1)) (hn : c.1 ∉ (kv nk l).map (·.1)) (hi : i ≤ l.length)
  (hg : i < l.length → c.1 < (l.getD i nz).1) (hx : ∀ j, j + 1 = i → ¬ c.1 < (l.getD j nz).1) :
  List.take i (nds l) ++ [nL c] ++ List.drop i (List.take l.length (nds l)) = nds (insK nk l c) := by
 have h := ins_back (w := kv nk l) (p := (c.1, c)) hs hn (by rw [kv_length]; exact hi) (fun q hq => by
   have hlt : i < l.length := by have := (List.getElem?_eq_some_iff.1 hq).1; rwa [kv_length] at this
   have h9 := hg hlt
   rw [kv, List.getElem?_map] at hq
   cases ha : l[i]? with
   | none => rw [ha] at hq; cases hq
   | some a =>
    rw [ha] at hq
    obtain rfl := Option.some.inj hq
    rw [List.getD_eq_getElem?_getD, ha] at h9
    exact h9) (fun j q hj hq => by
   have h9 := hx j hj
   rw [kv, List.getElem?_map] at hq
   cases ha : l[j]? with
   | none => rw [ha] at hq; cases hq
   | some a =>
    rw [ha] at hq
    obtain rfl := Option.some.inj hq
    rw [List.getD_eq_getElem?_getD, ha] at h9
    exact h9)
 have e2 := ins_kv nk l c
 rw [h] at e2
 have e3 : insK nk l c = l.take i ++ [c] ++ l.drop i := by
  have := congrArg (List.map (·.2)) e2
  simp only [List.map_append, List.map_take, List.map_drop, List.map_cons, List.map_nil, kv, List.map_map, Function.comp_def, List.map_id'] at this
  exact this.symm
 have e : List.take l.length (nds l) = nds l := List.take_of_length_le (by rw [nds_length]; exact Nat.le_refl _)
 rw [e, e3]
 simp [nds]
def add14 (w : Rc) (k : Int) (cap : List Int) : Int × Int := if 0 ≤ wrongS cap (max w.d 0) then (3, wrongS cap (max w.d 0)) else (raddE (kv nk w.nodes) 1024 k, 0)
set_option maxRecDepth 8000 in
theorem add14_ok (w : Rc) (k : Int) (cap : List Int) (hl : Sz w.nodes) (hs : (kv nk w.nodes).Pairwise (fun a b => a.1 < b.1)) (hc : cap.length ≤ 9223372036854775807) :
  PCall env 39 [fRc w, .agg [.int .i64 k, .slice 1 (ints cap)]] (.tup [fRc (rcAdd w k cap), .int .i64 (add14 w k cap).1, .int .i64 (add14 w k cap).2]) := by
 have hfind := find14_ok w k hl
 unfold fRc at hfind ⊢
 refine acalls_of envOk Tryz.func39 rfl (by kernel_rfl) (m := 63) rfl ?_
 simp only [push_cast, simprocAttr]
 refine (rwrong_ok cap (max w.d 0) hc).go (by first | exact ⟨.inl rfl, trivial⟩ | exact ⟨.inl rfl, .inl rfl, trivial⟩ | exact ⟨.inl rfl, .inl rfl, .inl rfl, trivial⟩ | simp [argsOk, argOk, sl, sll]) (WK.now ?_)
 simp only [push_cast, simprocAttr]
 by_cases h : 0 ≤ wrongS cap (max w.d 0)
 ·have hb : decide (wrongS cap (max w.d 0) ≥ 0) = true := decide_eq_true h
  simp only [hb, push_cast, simprocAttr]
  refine WK.now ?_
  simp only [add14, rcAdd, h, if_true, push_cast, simprocAttr]
 ·have hb : decide (wrongS cap (max w.d 0) ≥ 0) = false := decide_eq_false h
  simp only [hb, push_cast, simprocAttr]
  refine hfind.go (by first | exact ⟨.inl rfl, trivial⟩ | exact ⟨.inl rfl, .inl rfl, trivial⟩ | exact ⟨.inl rfl, .inl rfl, .inl rfl, trivial⟩ | simp [argsOk, argOk, sl, sll]) (WK.now ?_)
  simp only [push_cast, simprocAttr]
  refine Kbr.mk (fun c1 => ?_) (fun c1 => ?_)
  ·have c2 : 0 ≤ rfind (kv nk w.nodes) k := of_decide_eq_true c1
   simp only [push_cast, simprocAttr]
   refine WK.now ?_
   simp only [add14, rcAdd, h, if_false, raddE, raddK, c2, if_true, push_cast, simprocAttr]
  ·have c2 : ¬ 0 ≤ rfind (kv nk w.nodes) k := of_decide_eq_false c1
   simp only [push_cast, simprocAttr]
   refine Kbr.mk (fun c3 => ?_) (fun c3 => ?_)
   ·have c4 : (1024 : Int) ≤ w.nodes.length := of_decide_eq_true c3
    simp only [push_cast, simprocAttr]
    refine WK.now ?_
    simp only [add14, rcAdd, h, if_false, raddE, raddK, c2, c4, kv_length, if_true, push_cast, simprocAttr]
   ·have c4 : ¬ (1024 : Int) ≤ w.nodes.length := of_decide_eq_false c3
    have hn : k ∉ (kv nk w.nodes).map (·.1) := lget_none.1 (rfind_neg.1 (by omega))
    simp only [push_cast, simprocAttr]
    refine ALoop.mk (fun n t H ds => ∃ i : Nat, n = i ∧ i ≤ w.nodes.length ∧ (i < w.nodes.length → k < (w.nodes.getD i nz).1) ∧ t = (.x :: .x :: .pvar 0 0 :: .pvar 1 0 :: .pvar 2 0 :: .d (.int .i64 0) :: .d (.int .i64 0) :: .x :: .d (.int .i64 (i : Nat)) :: xs56) ∧ H = [.var [.d (.int .i64 w.d), .d (.slice 2 (nds w.nodes)), .d (.slice 9 (pods w.pods))], .var [.d (.int .i64 k), .d (.slice 1 (ints cap))], .var [.d (.int .i64 0), .d .nils, .d .nils]] ∧ ds = []) w.nodes.length
     (WK.fgt (t' := (.x :: .x :: .pvar 0 0 :: .pvar 1 0 :: .pvar 2 0 :: .d (.int .i64 0) :: .d (.int .i64 0) :: .x :: .d (.int .i64 (w.nodes.length : Nat)) :: xs56)) (by simp [fgt]) (WK.now ⟨w.nodes.length, rfl, by omega, by omega, rfl, rfl, rfl⟩)) ?_
    rintro i t H ds ⟨_, rfl, hi, hg, rfl, rfl, rfl⟩
    simp only [push_cast, simprocAttr]
    refine DRegL.one (by unfold DrawOK; kernel_rfl) ?_
    simp only [push_cast, simprocAttr]
    unfold Sz at hl
    refine Kbr.mk (fun c5 => ?_) (fun c5 => ?_)
    ·have c6 : 0 < i := by simpa using c5
     obtain ⟨j, rfl⟩ : ∃ j, i = j + 1 := ⟨i - 1, by omega⟩
     have w1 : IntKind.wrap .i64 ((j : Int) + 1 - 1) = (j : Int) := by rw [wrapi (by omega) (by omega)]; omega
     have hj : j < w.nodes.length := by omega
     simp only [w1, hj, cel_nds0, push_cast, simprocAttr]
     refine Kbr.mk (fun c7 => ?_) (fun c7 => ?_)
     ·have c8 : (w.nodes.getD j nz).1 > k := of_decide_eq_true c7
      simp only [w1, push_cast, simprocAttr]
      exact ⟨j, by omega, WK.fgt (t' := (.x :: .x :: .pvar 0 0 :: .pvar 1 0 :: .pvar 2 0 :: .d (.int .i64 0) :: .d (.int .i64 0) :: .x :: .d (.int .i64 (j : Nat)) :: xs56)) (by simp [fgt]) (WK.now ⟨j, rfl, by omega, fun _ => c8, rfl, rfl, rfl⟩)⟩
     ·have c8 : ¬ (w.nodes.getD j nz).1 > k := of_decide_eq_false c7
      simp only [push_cast, simprocAttr]
      refine DRegL.det [5, 8, 13, 15] [0, 1, 2, 3, 4, 6, 7, 9, 10, 11, 12] [(5, [6, 7, 9, 10, 11, 12], []), (8, [9, 10, 11, 12], []), (13, [], [14]), (15, [], [])] (by kernel_rfl) (by kernel_rfl) (by kernel_rfl) ?_
      have tn : ((j : Int) + 1).toNat = j + 1 := by omega
      simp only [tn, push_cast, simprocAttr]
      have hins := insN_rows (c := (k, cap)) hs hn hi hg (fun j' h' => (by have e9 : j' = j := (by omega); subst e9; exact fun hh => c8 hh))
      have hi' : ((j + 1 : Nat) : Int) ≤ (w.nodes.length : Int) := by omega
      simp only [nL] at hins
      refine ⟨by omega, by omega, by omega, by omega, Int.le_refl _, .inr trivial, room_of (by simp [nds]; omega) (by omega), ⟨by omega, by omega, Int.le_refl _⟩, room_of (by simp [nds]; omega) (by omega), ⟨by omega, by omega, Int.le_refl _⟩, room_of (by simp [nds]; omega) (by omega), WK.frz 5 rfl (WK.now ?_)⟩
      simp only [add14, rcAdd, h, if_false, raddE, raddK, c2, c4, kv_length, hins, push_cast, simprocAttr]
    ·have c6 : i = 0 := by have : ¬ 0 < i := by simpa using c5
                           omega
     simp only [push_cast, simprocAttr]
     refine DRegL.det [5, 8, 13, 15] [0, 1, 2, 3, 4, 6, 7, 9, 10, 11, 12] [(5, [6, 7, 9, 10, 11, 12], []), (8, [9, 10, 11, 12], []), (13, [], [14]), (15, [], [])] (by kernel_rfl) (by kernel_rfl) (by kernel_rfl) ?_
     simp only [push_cast, simprocAttr]
     have hins := insN_rows (c := (k, cap)) hs hn hi hg (fun j' h' => by omega)
     have hi' : ((i : Nat) : Int) ≤ (w.nodes.length : Int) := by omega
     simp only [nL] at hins
     refine ⟨hi', hi', Int.le_refl _, .inr trivial, room_of (by simp [nds]; omega) (by omega), ⟨hi', Int.le_refl _⟩, room_of (by simp [nds]; omega) (by omega), ⟨hi', Int.le_refl _⟩, room_of (by simp [nds]; omega) (by omega), WK.frz 5 rfl (WK.now ?_)⟩
     simp only [add14, rcAdd, h, if_false, raddE, raddK, c2, c4, kv_length, hins, push_cast, simprocAttr]
end Go.Proofs.YtmeicgbddgeeoaaGreatDoor
end
section
set_option autoImplicit false
set_option linter.unusedVariables false
set_option linter.unusedSimpArgs false
namespace Go.Proofs.YtmeicgbddgeeoaaGreatDoor
open Go.Abs
theorem useAt_le (k : Nat) (n : Int) : ∀ (P : List Pod), (∀ p ∈ P, GoodV p.2) → useAt k P n ≤ 1099511627776 * (P.length : Int)
 | [], _ => by simp [useAt]
 | p :: P, h => by
  have h1 := useAt_le k n P fun q hq => h q (by simp [hq])
  have h2 : share k n p ≤ 1099511627776 := by
   unfold share
   split
   ·exact ((h p (by simp)).at k).2
   ·omega
  simp only [useAt, List.map_cons, List.sum_cons, List.length_cons] at h1 ⊢
  omega
def part (a b : Int) (v : List Int) (m : Nat) : List Int := [a + (if 0 < m then v.getD 0 0 else 0), b + (if 1 < m then v.getD 1 0 else 0)]
theorem part_step0 (a b : Int) (v : List Int) : updN (ints (part a b v 0)) 0 0 [.int .i64 ((part a b v 0).getD 0 0 + v.getD 0 0)] = ints (part a b v 1) := by
 simp [part, ints, updN, splice]
theorem part_step1 (a b : Int) (v : List Int) : updN (ints (part a b v 1)) 1 0 [.int .i64 ((part a b v 1).getD 1 0 + v.getD 1 0)] = ints (part a b v 2) := by
 simp [part, ints, updN, splice]
theorem useTake {P : List Pod} {n : Int} {i : Nat} (k : Nat) (h : i < P.length) : useAt k (P.take (i + 1)) n = useAt k (P.take i) n + share k n (P.getD i pz) := by
 rw [List.take_add_one, List.getElem?_eq_getElem h, Option.toList_some, useAt_snoc, List.getD_eq_getElem?_getD, List.getElem?_eq_getElem h]; rfl
set_option maxRecDepth 8000 in
theorem used14_ok (w : Rc) (n : Int) (hd : w.d = 2) (hl : Sz w.pods) (hg : ∀ p ∈ w.pods, GoodV p.2) : PCall env 101 [fRc w, .int .i64 n] (sl (useOf w.pods n)) := by
 obtain ⟨d, nodes, P⟩ := w
 obtain rfl : d = 2 := hd
 have hl : P.length ≤ 1000000 := hl
 have hg : ∀ p ∈ P, GoodV p.2 := hg
 unfold fRc
 refine acalls_of envOk Tryz.func101 rfl (by kernel_rfl) (m := 64) rfl ?_
 simp only [push_cast, simprocAttr]
 refine ⟨by omega, room_of (by omega) (by omega), ?_⟩
 refine ALoop.mk (fun k t H ds => ∃ i : Nat, k = P.length - i ∧ i ≤ P.length ∧ t = (.x :: .d (.int .i64 n) :: .pvar 0 0 :: .x :: .d .nils :: .sfull 1 :: .d (.int .i64 (i : Nat)) :: xs59) ∧ H = [.var [.d (.int .i64 2), .d (.slice 2 (nds nodes)), .d (.slice 9 (pods P))], .arr 2 1 (ints [useAt 0 (P.take i) n, useAt 1 (P.take i) n])] ∧ ds = []) P.length
  (WK.fgt (t' := (.x :: .d (.int .i64 n) :: .pvar 0 0 :: .x :: .d .nils :: .sfull 1 :: .d (.int .i64 (0 : Nat)) :: xs59)) (by simp [fgt]) (WK.now ⟨0, by omega, by omega, rfl, by simp [useAt, ints]; rfl, rfl⟩)) ?_
 rintro k t H ds ⟨i, rfl, hi, rfl, rfl, rfl⟩
 simp only [push_cast, simprocAttr]
 refine Kbr.mk (fun c => ?_) (fun c => ?_)
 ·have c2 : i < P.length := by simpa using c
  have hgi : GoodV (P.getD i pz).2 := hg _ (by rw [List.getD_eq_getElem?_getD, List.getElem?_eq_getElem c2]; exact List.getElem_mem c2)
  have b0 := useAt_le 0 n (P.take i) fun p hp => hg p (List.mem_of_mem_take hp)
  have b1 := useAt_le 1 n (P.take i) fun p hp => hg p (List.mem_of_mem_take hp)
  have tl : (P.take i).length ≤ 1000000 := by rw [List.length_take]; omega
  have p0 := useAt_pos 0 n (P.take i) fun p hp => hg p (List.mem_of_mem_take hp)
  have p1 := useAt_pos 1 n (P.take i) fun p hp => hg p (List.mem_of_mem_take hp)
  obtain ⟨q, hq⟩ : ∃ q, q = P.getD i pz := ⟨_, rfl⟩
  rw [← hq] at hgi
  simp only [c2, seg_pods, ← hq, pL, push_cast, simprocAttr, pods_length, nds_length]
  by_cases hnd : q.1.nd = n
  ·have e1 : (q.1.nd != n) = false := by simpa using hnd
   by_cases hh : holdsP q.1.ph
   ·have hs0 : share 0 n q = q.2.getD 0 0 := if_pos ⟨hnd, hh⟩
    have hs1 : share 1 n q = q.2.getD 1 0 := if_pos ⟨hnd, hh⟩
    have e3 : (q.1.ph != 3) = false ∨ ((q.1.ph != 3) = true ∧ (q.1.ph != 4) = false) := by
     rcases hh with h | h
     ·exact .inl (by simpa using h)
     ·exact .inr ⟨by rw [h]; rfl, by simpa using h⟩
    rcases e3 with e3 | ⟨e3, e4⟩
    ·simp only [e1, e3, push_cast, simprocAttr]
     refine ALoop.mk (fun k t H ds => ∃ m : Nat, k = 2 - m ∧ m ≤ 2 ∧ t = (.x :: .d (.int .i64 n) :: .pvar 0 0 :: .x :: .d .nils :: .sfull 1 :: .d (.int .i64 (i : Nat)) :: .pvar 2 0 :: .d (.int .i64 (m : Nat)) :: xs57) ∧ H = [.var [.d (.int .i64 2), .d (.slice 2 (nds nodes)), .d (.slice 9 (pods P))], .arr 2 1 (ints (part (useAt 0 (P.take i) n) (useAt 1 (P.take i) n) q.2 m)), .var [.d (.int .i64 q.1.id), .d (.int .i64 q.1.pr), .d (.bool q.1.pre), .d (.int .i64 q.1.gr), .d (.slice 1 (ints q.2)), .d (.int .i64 q.1.ar), .d (.int .i64 q.1.ph), .d (.int .i64 q.1.nd), .d (.int .i64 q.1.dl)]] ∧ ds = []) 2
      (WK.fgt (t' := (.x :: .d (.int .i64 n) :: .pvar 0 0 :: .x :: .d .nils :: .sfull 1 :: .d (.int .i64 (i : Nat)) :: .pvar 2 0 :: .d (.int .i64 (0 : Nat)) :: xs57)) (by simp [fgt]) (WK.now ⟨0, by omega, by omega, rfl, by simp [part], rfl⟩)) ?_
     rintro k t H ds ⟨m, rfl, hm, rfl, rfl, rfl⟩
     have h3 : m = 0 ∨ m = 1 ∨ m = 2 := by omega
     have hq2 := hgi.1
     have l0 := hgi.at 0
     have l1 := hgi.at 1
     have hpl : (part (useAt 0 (P.take i) n) (useAt 1 (P.take i) n) q.2 m).length = 2 := rfl
     rcases h3 with rfl | rfl | rfl
     ·have w0 : IntKind.wrap .i64 ((part (useAt 0 (P.take i) n) (useAt 1 (P.take i) n) q.2 0).getD 0 0 + q.2.getD 0 0) = (part (useAt 0 (P.take i) n) (useAt 1 (P.take i) n) q.2 0).getD 0 0 + q.2.getD 0 0 := by
       have e : (part (useAt 0 (P.take i) n) (useAt 1 (P.take i) n) q.2 0).getD 0 0 = useAt 0 (P.take i) n := by simp [part]
       rw [e, wrapi (by omega) (by omega)]
      have w1 : IntKind.wrap .i64 1 = ((1 : Nat) : Int) := rfl
      simp only [hpl, hq2, push_cast, simprocAttr]
      refine DRegL.det [13] [0, 1, 2, 3, 4, 5, 6, 7, 8, 9, 10, 11, 12] [(13, [], [])] (by kernel_rfl) (by kernel_rfl) (by kernel_rfl) ?_
      simp only [hpl, hq2, cel_ints, w0, w1, part_step0, push_cast, simprocAttr]
      exact ⟨1, by omega, WK.fgt (t' := (.x :: .d (.int .i64 n) :: .pvar 0 0 :: .x :: .d .nils :: .sfull 1 :: .d (.int .i64 (i : Nat)) :: .pvar 2 0 :: .d (.int .i64 (1 : Nat)) :: xs57)) (by simp [fgt]) (WK.now ⟨1, by omega, by omega, rfl, rfl, rfl⟩)⟩
     ·have w0 : IntKind.wrap .i64 ((part (useAt 0 (P.take i) n) (useAt 1 (P.take i) n) q.2 1).getD 1 0 + q.2.getD 1 0) = (part (useAt 0 (P.take i) n) (useAt 1 (P.take i) n) q.2 1).getD 1 0 + q.2.getD 1 0 := by
       have e : (part (useAt 0 (P.take i) n) (useAt 1 (P.take i) n) q.2 1).getD 1 0 = useAt 1 (P.take i) n := by simp [part]
       rw [e, wrapi (by omega) (by omega)]
      have w1 : IntKind.wrap .i64 2 = ((2 : Nat) : Int) := rfl
      simp only [hpl, hq2, push_cast, simprocAttr]
      refine DRegL.det [13] [0, 1, 2, 3, 4, 5, 6, 7, 8, 9, 10, 11, 12] [(13, [], [])] (by kernel_rfl) (by kernel_rfl) (by kernel_rfl) ?_
      simp only [hpl, hq2, cel_ints, w0, w1, part_step1, push_cast, simprocAttr]
      exact ⟨0, by omega, WK.fgt (t' := (.x :: .d (.int .i64 n) :: .pvar 0 0 :: .x :: .d .nils :: .sfull 1 :: .d (.int .i64 (i : Nat)) :: .pvar 2 0 :: .d (.int .i64 (2 : Nat)) :: xs57)) (by simp [fgt]) (WK.now ⟨2, by omega, by omega, rfl, rfl, rfl⟩)⟩
     ·simp only [hpl, hq2, succ64 c2 (show P.length ≤ 4611686018427387904 by omega), push_cast, simprocAttr, pods_length, nds_length]
      have hfin : (part (useAt 0 (P.take i) n) (useAt 1 (P.take i) n) q.2 2) = [useAt 0 (P.take (i + 1)) n, useAt 1 (P.take (i + 1)) n] := by
       rw [useTake 0 c2, useTake 1 c2, ← hq, hs0, hs1]; simp [part]
      exact ⟨P.length - (i + 1), by omega, WK.pick [0, 1] (t' := (.x :: .d (.int .i64 n) :: .pvar 0 0 :: .x :: .d .nils :: .sfull 1 :: .d (.int .i64 (i + 1 : Nat)) :: xs59)) (H' := [.var [.d (.int .i64 2), .d (.slice 2 (nds nodes)), .d (.slice 9 (pods P))], .arr 2 1 (ints (part (useAt 0 (P.take i) n) (useAt 1 (P.take i) n) q.2 2))]) (by simp [ints, intss, sbl, ren_none, ren_var, ren_arr, ren_map, ren_mapb, ren_iter, ren_loop, ren_defr, bel_none, bel_var, bel_arr, bel_map, bel_mapb, bel_iter, bel_loop, bel_defr, AV.renL, AV.ren, AV.belL, AV.bel, rn]) (by simp) (by simp) (by simp [tellL, AV.ren, AV.renL, AV.bel, AV.belL, rn]) (by intro id h; omega) (WK.now ⟨i + 1, rfl, by omega, rfl, by rw [hfin], rfl⟩)⟩
    ·simp only [e1, e3, e4, push_cast, simprocAttr]
     refine ALoop.mk (fun k t H ds => ∃ m : Nat, k = 2 - m ∧ m ≤ 2 ∧ t = (.x :: .d (.int .i64 n) :: .pvar 0 0 :: .x :: .d .nils :: .sfull 1 :: .d (.int .i64 (i : Nat)) :: .pvar 2 0 :: .d (.int .i64 (m : Nat)) :: xs57) ∧ H = [.var [.d (.int .i64 2), .d (.slice 2 (nds nodes)), .d (.slice 9 (pods P))], .arr 2 1 (ints (part (useAt 0 (P.take i) n) (useAt 1 (P.take i) n) q.2 m)), .var [.d (.int .i64 q.1.id), .d (.int .i64 q.1.pr), .d (.bool q.1.pre), .d (.int .i64 q.1.gr), .d (.slice 1 (ints q.2)), .d (.int .i64 q.1.ar), .d (.int .i64 q.1.ph), .d (.int .i64 q.1.nd), .d (.int .i64 q.1.dl)]] ∧ ds = []) 2
      (WK.fgt (t' := (.x :: .d (.int .i64 n) :: .pvar 0 0 :: .x :: .d .nils :: .sfull 1 :: .d (.int .i64 (i : Nat)) :: .pvar 2 0 :: .d (.int .i64 (0 : Nat)) :: xs57)) (by simp [fgt]) (WK.now ⟨0, by omega, by omega, rfl, by simp [part], rfl⟩)) ?_
     rintro k t H ds ⟨m, rfl, hm, rfl, rfl, rfl⟩
     have h3 : m = 0 ∨ m = 1 ∨ m = 2 := by omega
     have hq2 := hgi.1
     have l0 := hgi.at 0
     have l1 := hgi.at 1
     have hpl : (part (useAt 0 (P.take i) n) (useAt 1 (P.take i) n) q.2 m).length = 2 := rfl
     rcases h3 with rfl | rfl | rfl
     ·have w0 : IntKind.wrap .i64 ((part (useAt 0 (P.take i) n) (useAt 1 (P.take i) n) q.2 0).getD 0 0 + q.2.getD 0 0) = (part (useAt 0 (P.take i) n) (useAt 1 (P.take i) n) q.2 0).getD 0 0 + q.2.getD 0 0 := by
       have e : (part (useAt 0 (P.take i) n) (useAt 1 (P.take i) n) q.2 0).getD 0 0 = useAt 0 (P.take i) n := by simp [part]
       rw [e, wrapi (by omega) (by omega)]
      have w1 : IntKind.wrap .i64 1 = ((1 : Nat) : Int) := rfl
      simp only [hpl, hq2, push_cast, simprocAttr]
      refine DRegL.det [13] [0, 1, 2, 3, 4, 5, 6, 7, 8, 9, 10, 11, 12] [(13, [], [])] (by kernel_rfl) (by kernel_rfl) (by kernel_rfl) ?_
      simp only [hpl, hq2, cel_ints, w0, w1, part_step0, push_cast, simprocAttr]
      exact ⟨1, by omega, WK.fgt (t' := (.x :: .d (.int .i64 n) :: .pvar 0 0 :: .x :: .d .nils :: .sfull 1 :: .d (.int .i64 (i : Nat)) :: .pvar 2 0 :: .d (.int .i64 (1 : Nat)) :: xs57)) (by simp [fgt]) (WK.now ⟨1, by omega, by omega, rfl, rfl, rfl⟩)⟩
     ·have w0 : IntKind.wrap .i64 ((part (useAt 0 (P.take i) n) (useAt 1 (P.take i) n) q.2 1).getD 1 0 + q.2.getD 1 0) = (part (useAt 0 (P.take i) n) (useAt 1 (P.take i) n) q.2 1).getD 1 0 + q.2.getD 1 0 := by
       have e : (part (useAt 0 (P.take i) n) (useAt 1 (P.take i) n) q.2 1).getD 1 0 = useAt 1 (P.take i) n := by simp [part]
       rw [e, wrapi (by omega) (by omega)]
      have w1 : IntKind.wrap .i64 2 = ((2 : Nat) : Int) := rfl
      simp only [hpl, hq2, push_cast, simprocAttr]
      refine DRegL.det [13] [0, 1, 2, 3, 4, 5, 6, 7, 8, 9, 10, 11, 12] [(13, [], [])] (by kernel_rfl) (by kernel_rfl) (by kernel_rfl) ?_
      simp only [hpl, hq2, cel_ints, w0, w1, part_step1, push_cast, simprocAttr]
      exact ⟨0, by omega, WK.fgt (t' := (.x :: .d (.int .i64 n) :: .pvar 0 0 :: .x :: .d .nils :: .sfull 1 :: .d (.int .i64 (i : Nat)) :: .pvar 2 0 :: .d (.int .i64 (2 : Nat)) :: xs57)) (by simp [fgt]) (WK.now ⟨2, by omega, by omega, rfl, rfl, rfl⟩)⟩
     ·simp only [hpl, hq2, succ64 c2 (show P.length ≤ 4611686018427387904 by omega), push_cast, simprocAttr, pods_length, nds_length]
      have hfin : (part (useAt 0 (P.take i) n) (useAt 1 (P.take i) n) q.2 2) = [useAt 0 (P.take (i + 1)) n, useAt 1 (P.take (i + 1)) n] := by
       rw [useTake 0 c2, useTake 1 c2, ← hq, hs0, hs1]; simp [part]
      exact ⟨P.length - (i + 1), by omega, WK.pick [0, 1] (t' := (.x :: .d (.int .i64 n) :: .pvar 0 0 :: .x :: .d .nils :: .sfull 1 :: .d (.int .i64 (i + 1 : Nat)) :: xs59)) (H' := [.var [.d (.int .i64 2), .d (.slice 2 (nds nodes)), .d (.slice 9 (pods P))], .arr 2 1 (ints (part (useAt 0 (P.take i) n) (useAt 1 (P.take i) n) q.2 2))]) (by simp [ints, intss, sbl, ren_none, ren_var, ren_arr, ren_map, ren_mapb, ren_iter, ren_loop, ren_defr, bel_none, bel_var, bel_arr, bel_map, bel_mapb, bel_iter, bel_loop, bel_defr, AV.renL, AV.ren, AV.belL, AV.bel, rn]) (by simp) (by simp) (by simp [tellL, AV.ren, AV.renL, AV.bel, AV.belL, rn]) (by intro id h; omega) (WK.now ⟨i + 1, rfl, by omega, rfl, by rw [hfin], rfl⟩)⟩
   ·have hs0 : share 0 n q = 0 := if_neg fun h => hh h.2
    have hs1 : share 1 n q = 0 := if_neg fun h => hh h.2
    have e3 : (q.1.ph != 3) = true := by simpa using fun h => hh (.inl h)
    have e4 : (q.1.ph != 4) = true := by simpa using fun h => hh (.inr h)
    simp only [e1, e3, e4, succ64 c2 (show P.length ≤ 4611686018427387904 by omega), push_cast, simprocAttr, pods_length, nds_length]
    exact ⟨P.length - (i + 1), by omega, WK.pick [0, 1] (t' := (.x :: .d (.int .i64 n) :: .pvar 0 0 :: .x :: .d .nils :: .sfull 1 :: .d (.int .i64 (i + 1 : Nat)) :: xs59)) (H' := [.var [.d (.int .i64 2), .d (.slice 2 (nds nodes)), .d (.slice 9 (pods P))], .arr 2 1 (ints [useAt 0 (P.take i) n, useAt 1 (P.take i) n])]) (by simp [ints, intss, sbl, ren_none, ren_var, ren_arr, ren_map, ren_mapb, ren_iter, ren_loop, ren_defr, bel_none, bel_var, bel_arr, bel_map, bel_mapb, bel_iter, bel_loop, bel_defr, AV.renL, AV.ren, AV.belL, AV.bel, rn]) (by simp) (by simp) (by simp [tellL, AV.ren, AV.renL, AV.bel, AV.belL, rn]) (by intro id h; omega) (WK.now ⟨i + 1, rfl, by omega, rfl, by rw [useTake 0 c2, useTake 1 c2, ← hq, hs0, hs1, Int.add_zero, Int.add_zero], rfl⟩)⟩
  ·have hs0 : share 0 n q = 0 := if_neg fun h => hnd h.1
   have hs1 : share 1 n q = 0 := if_neg fun h => hnd h.1
   have e1 : (q.1.nd != n) = true := by simpa using hnd
   simp only [e1, succ64 c2 (show P.length ≤ 4611686018427387904 by omega), push_cast, simprocAttr, pods_length, nds_length]
   exact ⟨P.length - (i + 1), by omega, WK.pick [0, 1] (t' := (.x :: .d (.int .i64 n) :: .pvar 0 0 :: .x :: .d .nils :: .sfull 1 :: .d (.int .i64 (i + 1 : Nat)) :: xs59)) (H' := [.var [.d (.int .i64 2), .d (.slice 2 (nds nodes)), .d (.slice 9 (pods P))], .arr 2 1 (ints [useAt 0 (P.take i) n, useAt 1 (P.take i) n])]) (by simp [ints, intss, sbl, ren_none, ren_var, ren_arr, ren_map, ren_mapb, ren_iter, ren_loop, ren_defr, bel_none, bel_var, bel_arr, bel_map, bel_mapb, bel_iter, bel_loop, bel_defr, AV.renL, AV.ren, AV.belL, AV.bel, rn]) (by simp) (by simp) (by simp [tellL, AV.ren, AV.renL, AV.bel, AV.belL, rn]) (by intro id h; omega) (WK.now ⟨i + 1, rfl, by omega, rfl, by rw [useTake 0 c2, useTake 1 c2, ← hq, hs0, hs1, Int.add_zero, Int.add_zero], rfl⟩)⟩
 ·have c2 : ¬ i < P.length := by simpa using c
  have e : P.take i = P := List.take_of_length_le (by omega)
  rw [e]
  simp only [push_cast, simprocAttr]
  refine WK.frz 1 rfl (WK.now ?_)
  simp only [useOf, push_cast, simprocAttr]
end Go.Proofs.YtmeicgbddgeeoaaGreatDoor
end
section
set_option autoImplicit false
set_option linter.unusedVariables false
set_option linter.unusedSimpArgs false
namespace Go.Proofs.YtmeicgbddgeeoaaGreatDoor
open Go.Abs
theorem two_rows' (u v : List Int) : [[D.slice 1 (ints u)], [D.slice 1 (ints v)]] = intss [u, v] := rfl
theorem findN_idx (l : List (Int × List Int)) (k : Int) : (findN l k = none ∧ rfind (kv nk l) k = -1) ∨ ∃ i : Nat, rfind (kv nk l) k = i ∧ i < l.length ∧ findN l k = some (l.getD i nz) := by
 unfold findN
 cases hf : l.findIdx? (fun n => n.1 == k) with
 | none =>
  have h := List.findIdx?_eq_none_iff.1 hf
  refine .inl ⟨?_, kvN_nofind fun j hj e => ?_⟩
  ·rw [List.find?_eq_none]
   intro x hx
   simpa using h x hx
  ·have := h l[j] (List.getElem_mem hj)
   rw [List.getD_eq_getElem?_getD, List.getElem?_eq_getElem hj, Option.getD_some] at e
   simp [e] at this
 | some i =>
  obtain ⟨hi, h1, h2⟩ := List.findIdx?_eq_some_iff_getElem.1 hf
  refine .inr ⟨i, kvN_find hi ?_ fun j hj e => ?_, hi, ?_⟩
  ·rw [List.getD_eq_getElem?_getD, List.getElem?_eq_getElem hi, Option.getD_some]; simpa using h1
  ·have := h2 j hj
   rw [List.getD_eq_getElem?_getD, List.getElem?_eq_getElem (show j < l.length by omega), Option.getD_some] at e
   simp [e] at this
  ·rw [List.getD_eq_getElem?_getD, List.getElem?_eq_getElem hi, Option.getD_some, List.find?_eq_some_iff_getElem]
   exact ⟨h1, i, hi, rfl, fun j hj => by simpa using h2 j hj⟩
noncomputable def plCode (w : Rc) (id at_ ev : Int) : Int × Int :=
 match findP w.pods id with
 | none => (5, 0)
 | some p => match findN w.nodes at_ with
  | none => (5, 1)
  | some n => match nextP p.1.ph ev with
   | none => (8, 0)
   | some to => if ev = 1 then (bif B (FitsP ((addS [useOf w.pods at_, p.2]).getD []) n.2) then (0, 0) else (10, 0)) else (0, 0)
def chCode (w : Rc) (id ev : Int) : Int × Int :=
 match findP w.pods id with
 | none => (5, 0)
 | some p => if ev = 1 ∨ ev = 2 then (8, 0) else match nextP p.1.ph ev with
  | none => (8, 0)
  | some to => (0, 0)
structure RcOk (w : Rc) : Prop where
 d : w.d = 2
 np : Sz w.pods
 nn : Sz w.nodes
 gp : ∀ p ∈ w.pods, GoodV p.2
 gn : ∀ n ∈ w.nodes, GoodV n.2
 nd : NoDup (kv pid w.pods)
set_option maxRecDepth 8000 in
set_option maxHeartbeats 1000000 in
theorem place14_code (w : Rc) (k at_ eo : Int) (h : RcOk w) : PCall env 83 [fRc w, .int .i64 k, .int .i64 at_, .int .i64 eo] (.tup [fRc (rcPlace w k at_ eo), .int .i64 (plCode w k at_ eo).1, .int .i64 (plCode w k at_ eo).2]) := by
 have hfind := find14_ok w at_ h.nn
 have hused := used14_ok w at_ h.d h.np h.gp
 have hf07 := find07_ok w.pods k h.np
 unfold fRc at hfind hused ⊢
 cases hp : findP w.pods k with
 | none =>
  rw [idxP_none.1 hp] at hf07
  refine acalls_of envOk Tryz.func83 rfl (by kernel_rfl) (m := 73) rfl ?_
  simp only [push_cast, simprocAttr]
  refine hf07.go (by first | exact ⟨.inl rfl, trivial⟩ | exact ⟨.inl rfl, .inl rfl, trivial⟩ | exact ⟨.inl rfl, .inl rfl, .inl rfl, trivial⟩ | simp [argsOk, argOk, sl, sll]) (WK.now ?_)
  simp only [push_cast, simprocAttr]
  refine WK.now ?_
  simp only [rcPlace, plCode, hp, push_cast, simprocAttr]
 | some p =>
  obtain ⟨i, hi, hil, hip, hpre⟩ := idxP_some hp
  rw [hi] at hf07
  have hb : decide ((i : Int) < 0) = false := decide_eq_false (by omega)
  have hgp : GoodV p.2 := h.gp p (findP_some hp).1
  rcases findN_idx w.nodes at_ with ⟨hn, hx⟩ | ⟨j, hj, hjl, hn⟩
  ·skip
   rw [hx] at hfind
   refine acalls_of envOk Tryz.func83 rfl (by kernel_rfl) (m := 73) rfl ?_
   simp only [push_cast, simprocAttr]
   refine hf07.go (by first | exact ⟨.inl rfl, trivial⟩ | exact ⟨.inl rfl, .inl rfl, trivial⟩ | exact ⟨.inl rfl, .inl rfl, .inl rfl, trivial⟩ | simp [argsOk, argOk, sl, sll]) (WK.now ?_)
   simp only [hb, push_cast, simprocAttr]
   refine hfind.go (by first | exact ⟨.inl rfl, trivial⟩ | exact ⟨.inl rfl, .inl rfl, trivial⟩ | exact ⟨.inl rfl, .inl rfl, .inl rfl, trivial⟩ | simp [argsOk, argOk, sl, sll]) (WK.now ?_)
   simp only [push_cast, simprocAttr]
   refine WK.now ?_
   simp only [rcPlace, plCode, hp, hn, push_cast, simprocAttr]
  ·rw [hj] at hfind
   have hb2 : decide ((j : Int) < 0) = false := decide_eq_false (by omega)
   have hgn : GoodV (w.nodes.getD j nz).2 := h.gn _ (by rw [List.getD_eq_getElem?_getD, List.getElem?_eq_getElem hjl]; exact List.getElem_mem hjl)
   cases hq : nextP p.1.ph eo with
   | none =>
    have hnx := next05_ok p.1.ph eo
    rw [hq] at hnx
    refine acalls_of envOk Tryz.func83 rfl (by kernel_rfl) (m := 73) rfl ?_
    simp only [push_cast, simprocAttr]
    refine hf07.go (by first | exact ⟨.inl rfl, trivial⟩ | exact ⟨.inl rfl, .inl rfl, trivial⟩ | exact ⟨.inl rfl, .inl rfl, .inl rfl, trivial⟩ | simp [argsOk, argOk, sl, sll]) (WK.now ?_)
    simp only [hb, push_cast, simprocAttr]
    refine hfind.go (by first | exact ⟨.inl rfl, trivial⟩ | exact ⟨.inl rfl, .inl rfl, trivial⟩ | exact ⟨.inl rfl, .inl rfl, .inl rfl, trivial⟩ | simp [argsOk, argOk, sl, sll]) (WK.now ?_)
    simp only [hb2, hil, cel_ph, hip, push_cast, simprocAttr]
    refine hnx.go (by first | exact ⟨.inl rfl, trivial⟩ | exact ⟨.inl rfl, .inl rfl, trivial⟩ | exact ⟨.inl rfl, .inl rfl, .inl rfl, trivial⟩ | simp [argsOk, argOk, sl, sll]) (WK.now ?_)
    simp only [Option.getD_none, push_cast, simprocAttr, pods_length, nds_length]
    refine WK.now ?_
    simp only [rcPlace, plCode, hp, hn, hq, push_cast, simprocAttr]
   | some to =>
    have hnx := next05_ok p.1.ph eo
    rw [hq] at hnx
    have h0 : (to == 0) = false := by simpa using (nextP_pos hq).1
    have u0 := useAt_le 0 at_ w.pods h.gp
    have u1 := useAt_le 1 at_ w.pods h.gp
    have v0 := useAt_pos 0 at_ w.pods h.gp
    have v1 := useAt_pos 1 at_ w.pods h.gp
    have g0 := hgp.at 0
    have g1 := hgp.at 1
    have hnp := h.np
    unfold Sz at hnp
    have ha : addS [useOf w.pods at_, p.2] = some (List.zipWith (· + ·) (useOf w.pods at_) p.2) := addS_two (by rw [hgp.1]; rfl) (fun k hk => by
     have : k = 0 ∨ k = 1 := by have : k < 2 := hk; omega
     rcases this with rfl | rfl
     ·show I64 (useAt 0 w.pods at_ + _)
      unfold I64; omega
     ·show I64 (useAt 1 w.pods at_ + _)
      unfold I64; omega)
    obtain ⟨s, hs⟩ : ∃ s, s = List.zipWith (· + ·) (useOf w.pods at_) p.2 := ⟨_, rfl⟩
    rw [← hs] at ha
    have hsz : s.length = 2 := by rw [hs]; simp [hgp.1, useOf]
    have hadd := radd_ok [useOf w.pods at_, p.2] (by unfold Sz; simp) (rows2 (by unfold Sz useOf; simp) hgp.sz) (rows2 (inR_of (by
     intro n hn
     simp only [useOf, List.mem_cons, List.not_mem_nil, or_false] at hn
     rcases hn with rfl | rfl <;> unfold I64 <;> omega)) hgp.inR)
    rw [ha] at hadd
    have hfits := rfits_ok s (w.nodes.getD j nz).2 (by unfold Sz; omega)
    have happ := app13_ok w.pods k eo at_ (-1) h.np h.nd
    by_cases h1 : eo = 1
    ·subst h1
     cases hB : B (FitsP s (w.nodes.getD j nz).2) with
     | false =>
      rw [hB] at hfits
      refine acalls_of envOk Tryz.func83 rfl (by kernel_rfl) (m := 73) rfl ?_
      simp only [push_cast, simprocAttr]
      refine hf07.go (by first | exact ⟨.inl rfl, trivial⟩ | exact ⟨.inl rfl, .inl rfl, trivial⟩ | exact ⟨.inl rfl, .inl rfl, .inl rfl, trivial⟩ | simp [argsOk, argOk, sl, sll]) (WK.now ?_)
      simp only [hb, push_cast, simprocAttr]
      refine hfind.go (by first | exact ⟨.inl rfl, trivial⟩ | exact ⟨.inl rfl, .inl rfl, trivial⟩ | exact ⟨.inl rfl, .inl rfl, .inl rfl, trivial⟩ | simp [argsOk, argOk, sl, sll]) (WK.now ?_)
      simp only [hb2, hil, cel_ph, hip, push_cast, simprocAttr]
      refine hnx.go (by first | exact ⟨.inl rfl, trivial⟩ | exact ⟨.inl rfl, .inl rfl, trivial⟩ | exact ⟨.inl rfl, .inl rfl, .inl rfl, trivial⟩ | simp [argsOk, argOk, sl, sll]) (WK.now ?_)
      simp only [Option.getD_some, h0, push_cast, simprocAttr, pods_length, nds_length]
      refine DRegL.det [] [0, 1, 2, 3, 4, 5, 6, 7, 8, 9, 10, 11, 12, 13, 14, 15] [] (by kernel_rfl) (by kernel_rfl) (by kernel_rfl) ?_
      simp only [push_cast, simprocAttr]
      refine hused.quiet' (by first | exact ⟨.inl rfl, trivial⟩ | exact ⟨.inl rfl, .inl rfl, trivial⟩ | exact ⟨.inl rfl, .inl rfl, .inl rfl, trivial⟩ | simp [argsOk, argOk, sl, sll]) ?_
      simp only [hil, cel_req, hip, two_rows', push_cast, simprocAttr, pods_length, nds_length]
      refine hadd.quiet' (by first | exact ⟨.inl rfl, trivial⟩ | exact ⟨.inl rfl, .inl rfl, trivial⟩ | exact ⟨.inl rfl, .inl rfl, .inl rfl, trivial⟩ | simp [argsOk, argOk, sl, sll]) ?_
      simp only [resS, push_cast, simprocAttr]
      simp only [hjl, cel_nds1, push_cast, simprocAttr]
      refine hfits.go (by first | exact ⟨.inl rfl, trivial⟩ | exact ⟨.inl rfl, .inl rfl, trivial⟩ | exact ⟨.inl rfl, .inl rfl, .inl rfl, trivial⟩ | simp [argsOk, argOk, sl, sll]) (WK.now ?_)
      simp only [push_cast, simprocAttr]
      refine WK.now ?_
      simp only [rcPlace, plCode, hp, hn, hq, ha, Option.getD_some, hB, if_true, cond_false, push_cast, simprocAttr, pods_length, nds_length]
     | true =>
      rw [hB] at hfits
      refine acalls_of envOk Tryz.func83 rfl (by kernel_rfl) (m := 73) rfl ?_
      simp only [push_cast, simprocAttr]
      refine hf07.go (by first | exact ⟨.inl rfl, trivial⟩ | exact ⟨.inl rfl, .inl rfl, trivial⟩ | exact ⟨.inl rfl, .inl rfl, .inl rfl, trivial⟩ | simp [argsOk, argOk, sl, sll]) (WK.now ?_)
      simp only [hb, push_cast, simprocAttr]
      refine hfind.go (by first | exact ⟨.inl rfl, trivial⟩ | exact ⟨.inl rfl, .inl rfl, trivial⟩ | exact ⟨.inl rfl, .inl rfl, .inl rfl, trivial⟩ | simp [argsOk, argOk, sl, sll]) (WK.now ?_)
      simp only [hb2, hil, cel_ph, hip, push_cast, simprocAttr]
      refine hnx.go (by first | exact ⟨.inl rfl, trivial⟩ | exact ⟨.inl rfl, .inl rfl, trivial⟩ | exact ⟨.inl rfl, .inl rfl, .inl rfl, trivial⟩ | simp [argsOk, argOk, sl, sll]) (WK.now ?_)
      simp only [Option.getD_some, h0, push_cast, simprocAttr, pods_length, nds_length]
      refine DRegL.det [] [0, 1, 2, 3, 4, 5, 6, 7, 8, 9, 10, 11, 12, 13, 14, 15] [] (by kernel_rfl) (by kernel_rfl) (by kernel_rfl) ?_
      simp only [push_cast, simprocAttr]
      refine hused.quiet' (by first | exact ⟨.inl rfl, trivial⟩ | exact ⟨.inl rfl, .inl rfl, trivial⟩ | exact ⟨.inl rfl, .inl rfl, .inl rfl, trivial⟩ | simp [argsOk, argOk, sl, sll]) ?_
      simp only [hil, cel_req, hip, two_rows', push_cast, simprocAttr, pods_length, nds_length]
      refine hadd.quiet' (by first | exact ⟨.inl rfl, trivial⟩ | exact ⟨.inl rfl, .inl rfl, trivial⟩ | exact ⟨.inl rfl, .inl rfl, .inl rfl, trivial⟩ | simp [argsOk, argOk, sl, sll]) ?_
      simp only [resS, push_cast, simprocAttr]
      simp only [hjl, cel_nds1, push_cast, simprocAttr]
      refine hfits.go (by first | exact ⟨.inl rfl, trivial⟩ | exact ⟨.inl rfl, .inl rfl, trivial⟩ | exact ⟨.inl rfl, .inl rfl, .inl rfl, trivial⟩ | simp [argsOk, argOk, sl, sll]) (WK.now ?_)
      simp only [push_cast, simprocAttr]
      refine happ.go (by first | exact ⟨.inl rfl, trivial⟩ | exact ⟨.inl rfl, .inl rfl, trivial⟩ | exact ⟨.inl rfl, .inl rfl, .inl rfl, trivial⟩ | simp [argsOk, argOk, sl, sll]) (WK.now ?_)
      simp only [app13, hp, hq, push_cast, simprocAttr]
      refine WK.now ?_
      simp only [rcPlace, plCode, hp, hn, hq, ha, Option.getD_some, hB, if_true, cond_true, push_cast, simprocAttr, pods_length, nds_length]
    ·have e1 : (eo == 1) = false := by simpa using h1
     refine acalls_of envOk Tryz.func83 rfl (by kernel_rfl) (m := 73) rfl ?_
     simp only [push_cast, simprocAttr]
     refine hf07.go (by first | exact ⟨.inl rfl, trivial⟩ | exact ⟨.inl rfl, .inl rfl, trivial⟩ | exact ⟨.inl rfl, .inl rfl, .inl rfl, trivial⟩ | simp [argsOk, argOk, sl, sll]) (WK.now ?_)
     simp only [hb, push_cast, simprocAttr]
     refine hfind.go (by first | exact ⟨.inl rfl, trivial⟩ | exact ⟨.inl rfl, .inl rfl, trivial⟩ | exact ⟨.inl rfl, .inl rfl, .inl rfl, trivial⟩ | simp [argsOk, argOk, sl, sll]) (WK.now ?_)
     simp only [hb2, hil, cel_ph, hip, push_cast, simprocAttr]
     refine hnx.go (by first | exact ⟨.inl rfl, trivial⟩ | exact ⟨.inl rfl, .inl rfl, trivial⟩ | exact ⟨.inl rfl, .inl rfl, .inl rfl, trivial⟩ | simp [argsOk, argOk, sl, sll]) (WK.now ?_)
     simp only [Option.getD_some, h0, push_cast, simprocAttr, pods_length, nds_length]
     refine DRegL.det [] [0, 1, 2, 3, 4, 5, 6, 7, 8, 9, 10, 11, 12, 13, 14, 15] [] (by kernel_rfl) (by kernel_rfl) (by kernel_rfl) ?_
     simp only [push_cast, simprocAttr]
     refine hused.quiet' (by first | exact ⟨.inl rfl, trivial⟩ | exact ⟨.inl rfl, .inl rfl, trivial⟩ | exact ⟨.inl rfl, .inl rfl, .inl rfl, trivial⟩ | simp [argsOk, argOk, sl, sll]) ?_
     simp only [hil, cel_req, hip, two_rows', push_cast, simprocAttr, pods_length, nds_length]
     refine hadd.quiet' (by first | exact ⟨.inl rfl, trivial⟩ | exact ⟨.inl rfl, .inl rfl, trivial⟩ | exact ⟨.inl rfl, .inl rfl, .inl rfl, trivial⟩ | simp [argsOk, argOk, sl, sll]) ?_
     simp only [resS, push_cast, simprocAttr]
     simp only [e1, push_cast, simprocAttr]
     refine happ.go (by first | exact ⟨.inl rfl, trivial⟩ | exact ⟨.inl rfl, .inl rfl, trivial⟩ | exact ⟨.inl rfl, .inl rfl, .inl rfl, trivial⟩ | simp [argsOk, argOk, sl, sll]) (WK.now ?_)
     simp only [app13, hp, hq, push_cast, simprocAttr]
     refine WK.now ?_
     simp only [rcPlace, plCode, hp, hn, hq, h1, if_false, push_cast, simprocAttr]
theorem place14_ok (w : Rc) (k at_ eo : Int) (h : RcOk w) : ∃ c a, PCall env 83 [fRc w, .int .i64 k, .int .i64 at_, .int .i64 eo] (.tup [fRc (rcPlace w k at_ eo), .int .i64 c, .int .i64 a]) := ⟨_, _, place14_code w k at_ eo h⟩
set_option maxRecDepth 8000 in
theorem change14_code (w : Rc) (k eo dl : Int) (h : RcOk w) : PCall env 86 [fRc w, .int .i64 k, .int .i64 eo, .int .i64 dl] (.tup [fRc (rcChange w k eo dl), .int .i64 (chCode w k eo).1, .int .i64 (chCode w k eo).2]) := by
 have hf07 := find07_ok w.pods k h.np
 have happ := app13_ok w.pods k eo (-1) dl h.np h.nd
 unfold fRc
 cases hp : findP w.pods k with
 | none =>
  rw [idxP_none.1 hp] at hf07
  refine acalls_of envOk Tryz.func86 rfl (by kernel_rfl) (m := 35) rfl ?_
  simp only [push_cast, simprocAttr]
  refine hf07.go (by first | exact ⟨.inl rfl, trivial⟩ | exact ⟨.inl rfl, .inl rfl, trivial⟩ | exact ⟨.inl rfl, .inl rfl, .inl rfl, trivial⟩ | simp [argsOk, argOk, sl, sll]) (WK.now ?_)
  simp only [push_cast, simprocAttr]
  refine WK.now ?_
  simp only [rcChange, chCode, hp, push_cast, simprocAttr]
 | some p =>
  obtain ⟨i, hi, hil, hip, hpre⟩ := idxP_some hp
  rw [hi] at hf07
  have hb : decide ((i : Int) < 0) = false := decide_eq_false (by omega)
  by_cases h12 : eo = 1 ∨ eo = 2
  ·skip
   have hb' : (eo == 1) = true ∨ ((eo == 1) = false ∧ (eo == 2) = true) := by
    rcases h12 with rfl | rfl
    ·exact .inl rfl
    ·exact .inr ⟨rfl, rfl⟩
   refine acalls_of envOk Tryz.func86 rfl (by kernel_rfl) (m := 35) rfl ?_
   simp only [push_cast, simprocAttr]
   refine hf07.go (by first | exact ⟨.inl rfl, trivial⟩ | exact ⟨.inl rfl, .inl rfl, trivial⟩ | exact ⟨.inl rfl, .inl rfl, .inl rfl, trivial⟩ | simp [argsOk, argOk, sl, sll]) (WK.now ?_)
   rcases hb' with b1 | ⟨b1, b2⟩
   ·simp only [hb, b1, push_cast, simprocAttr]
    refine WK.now ?_
    simp only [rcChange, chCode, hp, h12, if_true, push_cast, simprocAttr]
   ·simp only [hb, b1, b2, push_cast, simprocAttr]
    refine WK.now ?_
    simp only [rcChange, chCode, hp, h12, if_true, push_cast, simprocAttr]
  ·have b1 : (eo == 1) = false := by simpa using fun e => h12 (.inl e)
   have b2 : (eo == 2) = false := by simpa using fun e => h12 (.inr e)
   cases hq : nextP p.1.ph eo with
   | none =>
    refine acalls_of envOk Tryz.func86 rfl (by kernel_rfl) (m := 35) rfl ?_
    simp only [push_cast, simprocAttr]
    refine hf07.go (by first | exact ⟨.inl rfl, trivial⟩ | exact ⟨.inl rfl, .inl rfl, trivial⟩ | exact ⟨.inl rfl, .inl rfl, .inl rfl, trivial⟩ | simp [argsOk, argOk, sl, sll]) (WK.now ?_)
    simp only [hb, b1, b2, push_cast, simprocAttr]
    refine happ.go (by first | exact ⟨.inl rfl, trivial⟩ | exact ⟨.inl rfl, .inl rfl, trivial⟩ | exact ⟨.inl rfl, .inl rfl, .inl rfl, trivial⟩ | simp [argsOk, argOk, sl, sll]) (WK.now ?_)
    simp only [app13, hp, hq, push_cast, simprocAttr]
    refine WK.now ?_
    simp only [rcChange, chCode, hp, h12, if_false, hq, push_cast, simprocAttr]
   | some to =>
    refine acalls_of envOk Tryz.func86 rfl (by kernel_rfl) (m := 35) rfl ?_
    simp only [push_cast, simprocAttr]
    refine hf07.go (by first | exact ⟨.inl rfl, trivial⟩ | exact ⟨.inl rfl, .inl rfl, trivial⟩ | exact ⟨.inl rfl, .inl rfl, .inl rfl, trivial⟩ | simp [argsOk, argOk, sl, sll]) (WK.now ?_)
    simp only [hb, b1, b2, push_cast, simprocAttr]
    refine happ.go (by first | exact ⟨.inl rfl, trivial⟩ | exact ⟨.inl rfl, .inl rfl, trivial⟩ | exact ⟨.inl rfl, .inl rfl, .inl rfl, trivial⟩ | simp [argsOk, argOk, sl, sll]) (WK.now ?_)
    simp only [app13, hp, hq, push_cast, simprocAttr]
    refine WK.now ?_
    simp only [rcChange, chCode, hp, h12, if_false, hq, push_cast, simprocAttr]
theorem change14_ok (w : Rc) (k eo dl : Int) (h : RcOk w) : ∃ c a, PCall env 86 [fRc w, .int .i64 k, .int .i64 eo, .int .i64 dl] (.tup [fRc (rcChange w k eo dl), .int .i64 c, .int .i64 a]) := ⟨_, _, change14_code w k eo dl h⟩
end Go.Proofs.YtmeicgbddgeeoaaGreatDoor
end
section
set_option autoImplicit false
set_option linter.unusedVariables false
set_option linter.unusedSimpArgs false
namespace Go.Proofs.YtmeicgbddgeeoaaGreatDoor
open Go.Abs
section
variable {c : Cl} {w : Rc}
theorem RC.lenN (h : RC c w) : w.nodes.length ≤ 1024 ∧ c.N.length = w.nodes.length := by
 have h1 := h.nodes.len
 have h2 := h.nodes.room
 rw [List.length_map] at h1
 omega
theorem RC.ok (h : RC c w) : ClOk c := by
 have hlen := h.len
 have hpl : c.L.length = w.pods.length := by rw [h.perm.length_eq, kv_length]
 have hg : ∀ k p, lget c.L k = some p → GoodV p.2 := fun k p hk => by
  rw [h.get] at hk
  exact h.gp p (findP_some hk).1
 refine ⟨fun k p hk => (hg k p hk).sz, by unfold Sz; rw [h.ids, List.length_map]; omega, fun k hk => ?_, fun k e hk => ?_, by omega, by have := h.lenN; omega, by rw [h.d1]; omega, fun k p hk => (hg k p hk).inR⟩
 ·rw [h.ids] at hk
  obtain ⟨p, hp, rfl⟩ := List.mem_map.1 hk
  rw [h.get]
  unfold findP
  rw [List.find?_isSome]
  exact ⟨p, hp, by simp⟩
 ·rw [h.getN] at hk
  cases hn : findN w.nodes k with
  | none => rw [hn] at hk; cases hk
  | some n =>
   rw [hn] at hk
   obtain rfl := Option.some.inj hk
   obtain ⟨hm, rfl⟩ := findN_some hn
   have hgn := h.gn n hm
   refine ⟨hgn.inR, inR_of fun x hx => ?_, hgn.sz, by unfold Sz useOf; simp⟩
   have u0 := useAt_le 0 n.1 w.pods h.gp
   have u1 := useAt_le 1 n.1 w.pods h.gp
   have v0 := useAt_pos 0 n.1 w.pods h.gp
   have v1 := useAt_pos 1 n.1 w.pods h.gp
   unfold useOf at hx
   simp only [List.mem_cons, List.not_mem_nil, or_false] at hx
   rcases hx with rfl | rfl <;> unfold I64 <;> omega
theorem RC.okR (h : RC c w) : RcOk w :=
 ⟨h.d2, by have := h.len; unfold Sz; omega, by have := h.lenN; unfold Sz; omega, h.gp, h.gn, h.ndp⟩
theorem RC.sortedN (h : RC c w) : (kv nk w.nodes).Pairwise (fun a b => a.1 < b.1) := by
 have := h.nodes.sorted
 unfold kv
 rw [List.pairwise_map] at this ⊢
 exact this
end
noncomputable def clStep (c : Cl) (id n e : Int) : Cl := if e = 1 ∨ e = 2 then (clPlace c id n e).1 else (clChange c id e 7).1
noncomputable def rcStep (w : Rc) (id n e : Int) : Rc := if e = 1 ∨ e = 2 then rcPlace w id n e else rcChange w id e 7
theorem RC.step {c : Cl} {w : Rc} (h : RC c w) (id n e : Int) : RC (clStep c id n e) (rcStep w id n e) := by
 unfold clStep rcStep
 by_cases he : e = 1 ∨ e = 2
 ·rw [if_pos he, if_pos he]
  rcases he with rfl | rfl
  ·exact h.bind id n
  ·exact h.claim id n
 ·rw [if_neg he, if_neg he]
  exact h.change id e 7
theorem rcPlace_len (w : Rc) (id n e : Int) : (rcPlace w id n e).pods.length = w.pods.length ∧ (rcPlace w id n e).nodes = w.nodes := by
 unfold rcPlace
 cases findP w.pods id with
 | none => exact ⟨rfl, rfl⟩
 | some p =>
  cases findN w.nodes n with
  | none => exact ⟨rfl, rfl⟩
  | some m =>
   dsimp only
   cases nextP p.1.ph e with
   | none => exact ⟨rfl, rfl⟩
   | some to =>
    dsimp only
    by_cases he : e = 1
    ·rw [if_pos he]
     cases B (FitsP ((addS [useOf w.pods n, p.2]).getD []) m.2) with
     | true => exact ⟨upd_length _ _, rfl⟩
     | false => exact ⟨rfl, rfl⟩
    ·rw [if_neg he]; exact ⟨upd_length _ _, rfl⟩
theorem rcChange_len (w : Rc) (id e dl : Int) : (rcChange w id e dl).pods.length = w.pods.length ∧ (rcChange w id e dl).nodes = w.nodes := by
 unfold rcChange
 cases findP w.pods id with
 | none => exact ⟨rfl, rfl⟩
 | some p =>
  dsimp only
  by_cases he : e = 1 ∨ e = 2
  ·rw [if_pos he]; exact ⟨rfl, rfl⟩
  ·rw [if_neg he]
   cases nextP p.1.ph e with
   | none => exact ⟨rfl, rfl⟩
   | some to => exact ⟨upd_length _ _, rfl⟩
theorem rcStep_len (w : Rc) (id n e : Int) : (rcStep w id n e).pods.length = w.pods.length ∧ (rcStep w id n e).nodes = w.nodes := by
 unfold rcStep
 by_cases he : e = 1 ∨ e = 2
 ·rw [if_pos he]; exact rcPlace_len w id n e
 ·rw [if_neg he]; exact rcChange_len w id e 7
set_option maxRecDepth 8000 in
theorem step_ok (c : Cl) (w : Rc) (id n e : Int) (h : RC c w) : ACalls env 43 [.pvar 7 0, .d (fRc w), .d (.int .i64 id), .d (.int .i64 n), .d (.int .i64 e)] (Cs c)
  fun r H' => r = .d (fRc (rcStep w id n e)) ∧ H' = Cs (clStep c id n e) := by
 have hc := h.ok
 have hw := h.okR
 unfold Cs
 refine ACalls.cutTo [0, 1, 2, 3, 4, 5, 6, 7] rfl ?_ (fun l => by simp [Tb, Ps, Psn, Ns, Cs, fP, pL, fE, errD, errF, pgetD, nodeD, sl, sbl, ren_none, ren_var, ren_arr, ren_map, ren_mapb, ren_iter, ren_loop, ren_defr, bel_none, bel_var, bel_arr, bel_map, bel_mapb, bel_iter, bel_loop, bel_defr, AV.renL, AV.ren, AV.belL, AV.bel, rn]) (fun m => by simp [tellL, AV.ren, AV.renL, AV.bel, AV.belL, rn])
 refine acalls_of envOk Tryz.func43 rfl (by kernel_rfl) (m := 50) rfl ?_
 simp only [fRc, push_cast, simprocAttr, fP, pL, fE]
 refine Kbr.mk (fun b => ?_) (fun b => ?_)
 ·have e1 : e = 1 := by simpa using b
  subst e1
  simp only [push_cast, simprocAttr, fP, pL, fE]
  refine (cbind_ok c id n hc).at [0, 1, 2, 3, 4, 5, 6, 7] (by simp [Tb, Ps, Psn, Ns, Cs, fP, pL, fE, errD, errF, pgetD, nodeD, sl, sbl, ren_none, ren_var, ren_arr, ren_map, ren_mapb, ren_iter, ren_loop, ren_defr, bel_none, bel_var, bel_arr, bel_map, bel_mapb, bel_iter, bel_loop, bel_defr, AV.renL, AV.ren, AV.belL, AV.bel, rn]) (by simp) (by simp [Tb, Ps, Psn, Ns, Cs, fP, pL, fE, errD, errF, pgetD, nodeD, sl]) (by simp [Tb, Ps, Psn, Ns, Cs, fP, pL, fE, errD, errF, pgetD, nodeD, sl, AV.ren, AV.renL, rn]) (by simp [AV.belL, AV.bel]) (WK.now ?_)
  simp only [Cs, push_cast, simprocAttr, fP, pL, fE]
  obtain ⟨a1, a2, hpl⟩ := place14_ok w id n 1 hw
  unfold fRc at hpl
  refine hpl.go (by first | exact ⟨.inl rfl, trivial⟩ | exact ⟨.inl rfl, .inl rfl, trivial⟩ | exact ⟨.inl rfl, .inl rfl, .inl rfl, trivial⟩ | simp [argsOk, argOk, sl, sll]) (WK.now ?_)
  simp only [push_cast, simprocAttr, fP, pL, fE]
  refine WK.now ?_
  simp only [rcStep, clStep, true_or, push_cast, simprocAttr, fP, pL, fE]
  first | done | exact ⟨_, rfl⟩ | exact ⟨rfl, _, rfl⟩
 ·have e1 : ¬ e = 1 := by simpa using b
  simp only [push_cast, simprocAttr, fP, pL, fE]
  refine Kbr.mk (fun b2 => ?_) (fun b2 => ?_)
  ·have e2 : e = 2 := by simpa using b2
   subst e2
   simp only [push_cast, simprocAttr, fP, pL, fE]
   refine (cclaim_ok c id n hc).at [0, 1, 2, 3, 4, 5, 6, 7] (by simp [Tb, Ps, Psn, Ns, Cs, fP, pL, fE, errD, errF, pgetD, nodeD, sl, sbl, ren_none, ren_var, ren_arr, ren_map, ren_mapb, ren_iter, ren_loop, ren_defr, bel_none, bel_var, bel_arr, bel_map, bel_mapb, bel_iter, bel_loop, bel_defr, AV.renL, AV.ren, AV.belL, AV.bel, rn]) (by simp) (by simp [Tb, Ps, Psn, Ns, Cs, fP, pL, fE, errD, errF, pgetD, nodeD, sl]) (by simp [Tb, Ps, Psn, Ns, Cs, fP, pL, fE, errD, errF, pgetD, nodeD, sl, AV.ren, AV.renL, rn]) (by simp [AV.belL, AV.bel]) (WK.now ?_)
   simp only [Cs, push_cast, simprocAttr, fP, pL, fE]
   obtain ⟨a1, a2, hpl⟩ := place14_ok w id n 2 hw
   unfold fRc at hpl
   refine hpl.go (by first | exact ⟨.inl rfl, trivial⟩ | exact ⟨.inl rfl, .inl rfl, trivial⟩ | exact ⟨.inl rfl, .inl rfl, .inl rfl, trivial⟩ | simp [argsOk, argOk, sl, sll]) (WK.now ?_)
   simp only [push_cast, simprocAttr, fP, pL, fE]
   refine WK.now ?_
   simp only [rcStep, clStep, or_true, push_cast, simprocAttr, fP, pL, fE]
   first | done | exact ⟨_, rfl⟩ | exact ⟨rfl, _, rfl⟩
  ·have e2 : ¬ e = 2 := by simpa using b2
   have e12 : ¬ (e = 1 ∨ e = 2) := by omega
   simp only [push_cast, simprocAttr, fP, pL, fE]
   refine (cchange_ok c id e 7 hc).at [0, 1, 2, 3, 4, 5, 6, 7] (by simp [Tb, Ps, Psn, Ns, Cs, fP, pL, fE, errD, errF, pgetD, nodeD, sl, sbl, ren_none, ren_var, ren_arr, ren_map, ren_mapb, ren_iter, ren_loop, ren_defr, bel_none, bel_var, bel_arr, bel_map, bel_mapb, bel_iter, bel_loop, bel_defr, AV.renL, AV.ren, AV.belL, AV.bel, rn]) (by simp) (by simp [Tb, Ps, Psn, Ns, Cs, fP, pL, fE, errD, errF, pgetD, nodeD, sl]) (by simp [Tb, Ps, Psn, Ns, Cs, fP, pL, fE, errD, errF, pgetD, nodeD, sl, AV.ren, AV.renL, rn]) (by simp [AV.belL, AV.bel]) (WK.now ?_)
   simp only [Cs, push_cast, simprocAttr, fP, pL, fE]
   obtain ⟨a1, a2, hpl⟩ := change14_ok w id e 7 hw
   unfold fRc at hpl
   refine hpl.go (by first | exact ⟨.inl rfl, trivial⟩ | exact ⟨.inl rfl, .inl rfl, trivial⟩ | exact ⟨.inl rfl, .inl rfl, .inl rfl, trivial⟩ | simp [argsOk, argOk, sl, sll]) (WK.now ?_)
   simp only [push_cast, simprocAttr, fP, pL, fE]
   refine WK.now ?_
   simp only [rcStep, clStep, e12, push_cast, simprocAttr, fP, pL, fE]
   first | done | exact ⟨_, rfl⟩ | exact ⟨rfl, _, rfl⟩
end Go.Proofs.YtmeicgbddgeeoaaGreatDoor
end
section
set_option autoImplicit false
set_option linter.unusedVariables false
set_option linter.unusedSimpArgs false
namespace Go.Proofs.YtmeicgbddgeeoaaGreatDoor
open Go.Abs
abbrev Plc := Pod × Int × List Int
def xL (x : Plc) : List D := [.int .i64 x.1.1.id, .int .i64 x.1.1.pr, .bool x.1.1.pre, .int .i64 x.1.1.gr, .slice 1 (ints x.1.2), .int .i64 x.1.1.ar, .int .i64 x.1.1.ph, .int .i64 x.1.1.nd, .int .i64 x.1.1.dl, .int .i64 x.2.1, .slice 1 (ints x.2.2)]
def plcs (l : List Plc) : List (List D) := l.map xL
def xz : Plc := (pz, 0, [])
theorem plcs_length (l : List Plc) : (plcs l).length = l.length := by simp [plcs]
theorem plcs_get {l : List Plc} {i : Nat} (h : i < l.length) : (plcs l).getD i [] = xL (l.getD i xz) := by simp [plcs, List.getD_eq_getElem?_getD, h]
theorem seg_plcs {l : List Plc} {i : Nat} (h : i < l.length) : seg (plcs l) i 0 11 = xL (l.getD i xz) := by unfold seg; rw [plcs_get h]; rfl
theorem one_pod (p : Pod) : [[D.int .i64 p.1.id, .int .i64 p.1.pr, .bool p.1.pre, .int .i64 p.1.gr, .slice 1 (ints p.2), .int .i64 p.1.ar, .int .i64 p.1.ph, .int .i64 p.1.nd, .int .i64 p.1.dl]] = pods [p] := rfl
theorem RC.init : RC ⟨max 2 0, [], [], []⟩ ⟨2, [], []⟩ :=
 ⟨by decide, rfl, rfl, by simp [NoDup], .refl _, Rl.empty (by omega), by simp, by simp, by simp, by simp, by simp⟩
theorem rcAdd_len (w : Rc) (k : Int) (cap : List Int) : (rcAdd w k cap).pods = w.pods ∧ (rcAdd w k cap).nodes.length ≤ w.nodes.length + 1 := by
 unfold rcAdd
 split
 ·exact ⟨rfl, by omega⟩
 ·refine ⟨rfl, ?_⟩
  show (raddK (·.1) w.nodes 1024 (k, cap)).length ≤ _
  unfold raddK
  split
  ·omega
  ·split
   ·omega
   ·unfold insK
    have := congrArg List.length (List.takeWhile_append_dropWhile (p := fun q : Int × List Int => decide (q.1 < (k, cap).1)) (l := w.nodes))
    simp only [List.length_append, List.length_singleton] at this ⊢
    omega
theorem rcSubmit_len (w : Rc) (p : Pod) : (rcSubmit w p).nodes = w.nodes ∧ (rcSubmit w p).pods.length ≤ w.pods.length + 1 := by
 unfold rcSubmit
 split
 ·exact ⟨rfl, by omega⟩
 ·split
  ·exact ⟨rfl, by omega⟩
  ·split
   ·exact ⟨rfl, by omega⟩
   ·exact ⟨rfl, by simp⟩
def xV (x : Plc) : AObj := .var ((xL x).map .d)
theorem clSubmit_err {c : Cl} {p : Pod} {e : Int × Int} (h : (clSubmit c p).2 = some e) : (clSubmit c p).1 = c := by
 unfold clSubmit at h ⊢
 split
 ·rfl
 ·rename_i hw
  rw [if_neg hw] at h
  cases hE : addE 65536 c.L p.1.id with
  | some x => rfl
  | none => rw [hE] at h; cases h
def PrOk (P : List Pod) : Prop := ∀ q ∈ P, -1073741824 ≤ q.1.pr ∧ q.1.pr ≤ 1073741824
def NdPr (w : Rc) : Prop := w.nodes.length ≤ 20 ∧ PrOk w.pods
theorem PrOk.upd {P : List Pod} (h : PrOk P) {p q : Pod} (hp : p ∈ P) (hq : q.1.pr = p.1.pr) : PrOk (updP P q) := fun x hx => by
 obtain ⟨y, hy, rfl⟩ := List.mem_map.1 hx
 by_cases he : y.1.id = q.1.id
 ·rw [if_pos he, hq]; exact h p hp
 ·rw [if_neg he]; exact h y hy
theorem PrOk.submit {w : Rc} (h : PrOk w.pods) {p : Pod} (hp : -1073741824 ≤ p.1.pr ∧ p.1.pr ≤ 1073741824) : PrOk (rcSubmit w p).pods := by
 unfold rcSubmit
 split
 ·exact h
 ·split
  ·exact h
  ·split
   ·exact h
   ·intro x hx
    rcases List.mem_append.1 hx with hx | hx
    ·exact h x hx
    ·rw [List.mem_singleton.1 hx]; exact hp
theorem PrOk.place {w : Rc} (h : PrOk w.pods) (id n e : Int) : PrOk (rcPlace w id n e).pods := by
 unfold rcPlace
 cases hp : findP w.pods id with
 | none => exact h
 | some p =>
  have hm := (findP_some hp).1
  cases findN w.nodes n with
  | none => exact h
  | some m =>
   dsimp only
   cases nextP p.1.ph e with
   | none => exact h
   | some to =>
    dsimp only
    by_cases he : e = 1
    ·rw [if_pos he]
     cases B (FitsP ((addS [useOf w.pods n, p.2]).getD []) m.2) with
     | true => exact h.upd hm rfl
     | false => exact h
    ·rw [if_neg he]; exact h.upd hm rfl
theorem PrOk.change {w : Rc} (h : PrOk w.pods) (id e dl : Int) : PrOk (rcChange w id e dl).pods := by
 unfold rcChange
 cases hp : findP w.pods id with
 | none => exact h
 | some p =>
  have hm := (findP_some hp).1
  dsimp only
  by_cases he : e = 1 ∨ e = 2
  ·rw [if_pos he]; exact h
  ·rw [if_neg he]
   cases nextP p.1.ph e with
   | none => exact h
   | some to => exact h.upd hm rfl
theorem PrOk.step {w : Rc} (h : PrOk w.pods) (id n e : Int) : PrOk (rcStep w id n e).pods := by
 unfold rcStep
 by_cases he : e = 1 ∨ e = 2
 ·rw [if_pos he]; exact h.place id n e
 ·rw [if_neg he]; exact h.change id e 7
def Bs (c : Cl) (w : Rc) : List AObj := [.var [.d (.int .i64 0), .d .nils, .d .nils], .map (entE fP c.L), .var [.d (.int .i64 65536), .mapo 1], .var [.pvar 2 0, .sfull 4], .arr 3 1 (ints c.ids),
 .map (entE fE c.N), .var [.d (.int .i64 1024), .mapo 5], .var [.d (.int .i64 c.d), .pvar 6 0], .var [.pvar 3 0, .pvar 7 0],
 .var [.d (.int .i64 w.d), .d (.slice 2 (nds w.nodes)), .d (.slice 9 (pods w.pods))]]
set_option maxRecDepth 8000 in
set_option maxHeartbeats 1000000 in
theorem build_raw (nodes : List (Int × List Int)) (ps : List Plc) : ACalls env 11 [.d (.slice 2 (nds nodes)), .d (.slice 11 (plcs ps))] []
  fun r H' => (∃ x y z, r = .d (.tup [.nilp, .agg [x, y, z]])) ∨ ∃ c w, r = .tup [.pvar 8 0, .d (fRc w)] ∧ RC c w ∧ w.nodes.length ≤ 20 ∧ w.pods.length ≤ 40 ∧ PrOk w.pods ∧
   ∃ l, H' = .var l :: (Bs c w).tail := by
 refine acalls_of envOk Tryz.func11 rfl (by kernel_rfl) (m := 111) rfl ?_
 simp only [push_cast, simprocAttr, plcs_length, fP, pL, fE]
 refine (cnew_ok 2).at [] (by simp [Tb, Ps, Psn, Ns, Cs, Csn, fRc, fP, pL, fE, errD, errF, pgetD, nodeD, sl, sbl, ren_none, ren_var, ren_arr, ren_map, ren_mapb, ren_iter, ren_loop, ren_defr, bel_none, bel_var, bel_arr, bel_map, bel_mapb, bel_iter, bel_loop, bel_defr, AV.renL, AV.ren, AV.belL, AV.bel, rn]) (by simp) (by simp [Tb, Ps, Psn, Ns, Cs, Csn, fRc, fP, pL, fE, errD, errF, pgetD, nodeD, sl]) (by simp [Tb, Ps, Psn, Ns, Cs, Csn, fRc, fP, pL, fE, errD, errF, pgetD, nodeD, sl, AV.ren, AV.renL, rn]) (by simp [AV.belL, AV.bel]) (WK.now ?_)
 simp only [Cs, push_cast, simprocAttr, plcs_length, fP, pL, fE]
 by_cases h20 : (nodes.length : Int) > 20
 ·simp only [decide_eq_true h20, push_cast, simprocAttr, pods_length, nds_length, plcs_length, fP, pL, fE]
  refine DRegL.det [2] [0, 1] [(2, [], [])] (by kernel_rfl) (by kernel_rfl) (by kernel_rfl) ?_
  simp only [push_cast, simprocAttr, plcs_length, fP, pL, fE]
  refine WK.now ?_
  simp only [push_cast, simprocAttr, plcs_length, fP, pL, fE]
  exact .inl ⟨_, _, _, rfl⟩
 by_cases h40 : (ps.length : Int) > 40
 ·simp only [decide_eq_false h20, decide_eq_true h40, push_cast, simprocAttr, pods_length, nds_length, plcs_length, fP, pL, fE]
  refine DRegL.det [2] [0, 1] [(2, [], [])] (by kernel_rfl) (by kernel_rfl) (by kernel_rfl) ?_
  simp only [push_cast, simprocAttr, plcs_length, fP, pL, fE]
  refine WK.now ?_
  simp only [push_cast, simprocAttr, plcs_length, fP, pL, fE]
  exact .inl ⟨_, _, _, rfl⟩
 simp only [decide_eq_false h20, decide_eq_false h40, push_cast, simprocAttr, pods_length, nds_length, plcs_length, fP, pL, fE]
 refine ALoop.mk (fun k t H ds => ∃ (i : Nat) (c : Cl) (w : Rc), k = nodes.length - i ∧ i ≤ nodes.length ∧ RC c w ∧ w.pods.length = 0 ∧ w.nodes.length ≤ i ∧ t = (.d (.slice 2 (nds nodes)) :: .d (.slice 11 (plcs ps)) :: .x :: .x :: .d .nilp :: .pvar 0 0 :: .pvar 8 0 :: .pvar 9 0 :: .d (.int .i64 (i : Nat)) :: xs104) ∧ H = Bs c w ∧ ds = []) nodes.length
  (WK.fgt (t' := (.d (.slice 2 (nds nodes)) :: .d (.slice 11 (plcs ps)) :: .x :: .x :: .d .nilp :: .pvar 0 0 :: .pvar 8 0 :: .pvar 9 0 :: .d (.int .i64 (0 : Nat)) :: xs104)) (by simp [fgt]) (WK.nildat 9 1 2 rfl rfl (WK.nildat 9 2 9 rfl rfl (WK.now ⟨0, _, _, by omega, by omega, RC.init, rfl, by simp, rfl, rfl, rfl⟩)))) ?_
 rintro k t H ds ⟨i, c, w, rfl, hi, h, hp0, hnl, rfl, rfl, rfl⟩
 simp only [Bs, push_cast, simprocAttr, plcs_length, fP, pL, fE]
 refine Kbr.mk (fun b => ?_) (fun b => ?_)
 ·have c2 : i < nodes.length := by simpa using b
  have sc : IntKind.wrap .i64 ((i : Int) + 1) = ((i + 1 : Nat) : Int) := by rw [wrapi (by omega) (by omega)]; rfl
  by_cases hb : ((nodes.getD i nz).2.length : Int) > 20
  ·simp only [c2, cel_nds1, decide_eq_true hb, push_cast, simprocAttr, pods_length, nds_length, plcs_length, fP, pL, fE]
   refine DRegL.det [2] [0, 1] [(2, [], [])] (by kernel_rfl) (by kernel_rfl) (by kernel_rfl) ?_
   simp only [push_cast, simprocAttr, plcs_length, fP, pL, fE]
   refine WK.now ?_
   simp only [push_cast, simprocAttr, plcs_length, fP, pL, fE]
   exact .inl ⟨_, _, _, rfl⟩
  ·simp only [c2, cel_nds1, decide_eq_false hb, push_cast, simprocAttr, pods_length, nds_length, plcs_length, fP, pL, fE]
   refine DRegL.det [10] [0, 1, 2, 3, 4, 5, 6, 7, 8, 9] [(10, [8, 9], [])] (by kernel_rfl) (by kernel_rfl) (by kernel_rfl) ?_
   simp only [c2, seg_nds, nL, push_cast, simprocAttr, plcs_length, fP, pL, fE]
   have hadd := add14_ok w (nodes.getD i nz).1 (nodes.getD i nz).2 h.okR.nn h.sortedN (by omega)
   unfold fRc at hadd
   refine hadd.quiet' (by first | exact ⟨.inl rfl, trivial⟩ | exact ⟨.inl rfl, .inl rfl, trivial⟩ | exact ⟨.inl rfl, .inl rfl, .inl rfl, trivial⟩ | simp [argsOk, argOk, sl, sll]) ?_
   simp only [push_cast, simprocAttr, plcs_length, fP, pL, fE]
   simp only [c2, seg_nds, nL, push_cast, simprocAttr, plcs_length, fP, pL, fE]
   refine (cadd_ok c (nodes.getD i nz).1 (nodes.getD i nz).2 h.ok.d h.ok.nl (by omega)).at [1, 2, 3, 4, 5, 6, 7, 8] (by simp [Tb, Ps, Psn, Ns, Cs, Csn, fRc, fP, pL, fE, errD, errF, pgetD, nodeD, sl, sbl, ren_none, ren_var, ren_arr, ren_map, ren_mapb, ren_iter, ren_loop, ren_defr, bel_none, bel_var, bel_arr, bel_map, bel_mapb, bel_iter, bel_loop, bel_defr, AV.renL, AV.ren, AV.belL, AV.bel, rn]) (by simp) (by simp [Tb, Ps, Psn, Ns, Cs, Csn, fRc, fP, pL, fE, errD, errF, pgetD, nodeD, sl]) (by simp [Tb, Ps, Psn, Ns, Cs, Csn, fRc, fP, pL, fE, errD, errF, pgetD, nodeD, sl, AV.ren, AV.renL, rn]) (by simp [AV.belL, AV.bel]) (WK.now ?_)
   simp only [Cs, sc, push_cast, simprocAttr, plcs_length, fP, pL, fE]
   obtain ⟨a1, a2⟩ := rcAdd_len w (nodes.getD i nz).1 (nodes.getD i nz).2
   exact ⟨nodes.length - (i + 1), by omega, WK.fgt (t' := (.d (.slice 2 (nds nodes)) :: .d (.slice 11 (plcs ps)) :: .x :: .x :: .d .nilp :: .pvar 0 0 :: .pvar 8 0 :: .pvar 9 0 :: .d (.int .i64 (i + 1 : Nat)) :: xs104)) (by simp [fgt]) (WK.now ⟨i + 1, _, _, rfl, by omega, h.add _ _, by rw [a1]; exact hp0, by omega, rfl, rfl, rfl⟩)⟩
 ·have c2 : ¬ i < nodes.length := by simpa using b
  simp only [push_cast, simprocAttr, plcs_length, fP, pL, fE]
  refine ALoop.mk (fun k t H ds => ∃ (i : Nat) (c : Cl) (w : Rc), k = ps.length - i ∧ i ≤ ps.length ∧ RC c w ∧ w.pods.length ≤ i ∧ NdPr w ∧ t = (.d (.slice 2 (nds nodes)) :: .d (.slice 11 (plcs ps)) :: .x :: .x :: .d .nilp :: .pvar 0 0 :: .pvar 8 0 :: .pvar 9 0 :: .x :: .d (.int .i64 (i : Nat)) :: xs103) ∧ H = Bs c w ∧ ds = []) ps.length
   (WK.fgt (t' := (.d (.slice 2 (nds nodes)) :: .d (.slice 11 (plcs ps)) :: .x :: .x :: .d .nilp :: .pvar 0 0 :: .pvar 8 0 :: .pvar 9 0 :: .x :: .d (.int .i64 (0 : Nat)) :: xs103)) (by simp [fgt]) (WK.now ⟨0, c, w, by omega, by omega, h, by omega, ⟨by omega, fun q hq => by rw [List.eq_nil_of_length_eq_zero hp0] at hq; cases hq⟩, rfl, rfl, rfl⟩)) ?_
  clear h hp0 hnl c2 b hi
  rintro k t H ds ⟨i, c, w, rfl, hi, h, hpl, hnl, rfl, rfl, rfl⟩
  simp only [Bs, push_cast, simprocAttr, plcs_length, fP, pL, fE]
  refine Kbr.mk (fun b => ?_) (fun b => ?_)
  ·have c2 : i < ps.length := by simpa using b
   have sc : IntKind.wrap .i64 ((i : Int) + 1) = ((i + 1 : Nat) : Int) := by rw [wrapi (by omega) (by omega)]; rfl
   obtain ⟨x, hx⟩ : ∃ x, x = ps.getD i xz := ⟨_, rfl⟩
   simp only [c2, seg_plcs, ← hx, xL, one_pod, push_cast, simprocAttr, pods_length, nds_length, plcs_length, fP, pL, fE]
   refine (few_ok [x.1] (by simp)).go (by first | exact ⟨.inl rfl, trivial⟩ | exact ⟨.inl rfl, .inl rfl, trivial⟩ | exact ⟨.inl rfl, .inl rfl, .inl rfl, trivial⟩ | simp [argsOk, argOk, sl, sll]) (WK.now ?_)
   cases hf : B (FewP [x.1]) with
   | false =>
    simp only [push_cast, simprocAttr, plcs_length, fP, pL, fE]
    refine DRegL.det [2] [0, 1] [(2, [], [])] (by kernel_rfl) (by kernel_rfl) (by kernel_rfl) ?_
    simp only [push_cast, simprocAttr, plcs_length, fP, pL, fE]
    refine WK.now ?_
    simp only [push_cast, simprocAttr, plcs_length, fP, pL, fE]
    exact .inl ⟨_, _, _, rfl⟩
   | true =>
    have hlen : x.1.2.length ≤ 20 := ((B_iff.1 hf).1 0 (by simp)).2.2
    have hprx : -1073741824 ≤ x.1.1.pr ∧ x.1.1.pr ≤ 1073741824 := ⟨((B_iff.1 hf).1 0 (by simp)).1, ((B_iff.1 hf).1 0 (by simp)).2.1⟩
    by_cases hev : (x.2.2.length : Int) > 20
    ·simp only [decide_eq_true hev, push_cast, simprocAttr, pods_length, nds_length, plcs_length, fP, pL, fE]
     refine DRegL.det [2] [0, 1] [(2, [], [])] (by kernel_rfl) (by kernel_rfl) (by kernel_rfl) ?_
     simp only [push_cast, simprocAttr, plcs_length, fP, pL, fE]
     refine WK.now ?_
     simp only [push_cast, simprocAttr, plcs_length, fP, pL, fE]
     exact .inl ⟨_, _, _, rfl⟩
    ·simp only [decide_eq_false hev, push_cast, simprocAttr, pods_length, nds_length, plcs_length, fP, pL, fE]
     have hsub := sub14_ok w x.1 h.okR.np (by omega)
     unfold fRc fP pL at hsub
     refine hsub.go (by first | exact ⟨.inl rfl, trivial⟩ | exact ⟨.inl rfl, .inl rfl, trivial⟩ | exact ⟨.inl rfl, .inl rfl, .inl rfl, trivial⟩ | simp [argsOk, argOk, sl, sll]) (WK.now ?_)
     simp only [push_cast, simprocAttr, plcs_length, fP, pL, fE]
     have hsz : Sz x.1.2 := by unfold Sz; omega
     obtain ⟨r1, r2⟩ := rcSubmit_len w x.1
     have hrc := h.submit x.1
     cases he : (clSubmit c x.1).2 with
     | some e =>
      refine (csubmit_err c x.1 h.ok hsz e he).at [1, 2, 3, 4, 5, 6, 7, 8] (by simp [Tb, Ps, Psn, Ns, Cs, Csn, fRc, fP, pL, fE, errD, errF, pgetD, nodeD, sl, sbl, ren_none, ren_var, ren_arr, ren_map, ren_mapb, ren_iter, ren_loop, ren_defr, bel_none, bel_var, bel_arr, bel_map, bel_mapb, bel_iter, bel_loop, bel_defr, AV.renL, AV.ren, AV.belL, AV.bel, rn]) (by simp) (by simp [Tb, Ps, Psn, Ns, Cs, Csn, fRc, fP, pL, fE, errD, errF, pgetD, nodeD, sl]) (by simp [Tb, Ps, Psn, Ns, Cs, Csn, fRc, fP, pL, fE, errD, errF, pgetD, nodeD, sl, AV.ren, AV.renL, rn]) (by simp [AV.belL, AV.bel]) (WK.now ?_)
      rw [clSubmit_err he] at hrc
      simp only [Cs, push_cast, simprocAttr, plcs_length, fP, pL, fE]
      refine ALoop.mk (fun k t H ds => ∃ (j : Nat) (c' : Cl) (w' : Rc), k = x.2.2.length - j ∧ j ≤ x.2.2.length ∧ RC c' w' ∧ w'.pods.length ≤ i + 1 ∧ NdPr w' ∧ t = (.d (.slice 2 (nds nodes)) :: .d (.slice 11 (plcs ps)) :: .x :: .x :: .d .nilp :: .pvar 0 0 :: .pvar 8 0 :: .pvar 9 0 :: .x :: .d (.int .i64 (i : Nat)) :: .pvar 10 0 :: .d (.int .i64 (j : Nat)) :: xs101) ∧ H = Bs c' w' ++ [xV x] ∧ ds = []) x.2.2.length
       (WK.fgt (t' := (.d (.slice 2 (nds nodes)) :: .d (.slice 11 (plcs ps)) :: .x :: .x :: .d .nilp :: .pvar 0 0 :: .pvar 8 0 :: .pvar 9 0 :: .x :: .d (.int .i64 (i : Nat)) :: .pvar 10 0 :: .d (.int .i64 (0 : Nat)) :: xs101)) (by simp [fgt]) (WK.now ⟨0, c, rcSubmit w x.1, by omega, by omega, hrc, by omega, ⟨by rw [r1]; exact hnl.1, hnl.2.submit hprx⟩, rfl, rfl, rfl⟩)) ?_
      clear hrc r1 r2 h hsub
      rintro k t H ds ⟨j, c', w', rfl, hj, h', hpl', hnl', rfl, rfl, rfl⟩
      simp only [Bs, xV, xL, push_cast, simprocAttr, plcs_length, fP, pL, fE]
      refine Kbr.mk (fun b3 => ?_) (fun b3 => ?_)
      ·have c3 : j < x.2.2.length := by simpa using b3
       have sj : IntKind.wrap .i64 ((j : Int) + 1) = ((j + 1 : Nat) : Int) := by rw [wrapi (by omega) (by omega)]; rfl
       simp only [c3, cel_ints, push_cast, simprocAttr, plcs_length, fP, pL, fE]
       refine DRegL.det [12, 13] [0, 1, 2, 3, 4, 5, 6, 7, 8, 9, 10, 11] [(12, [], []), (13, [], [])] (by kernel_rfl) (by kernel_rfl) (by kernel_rfl) ?_
       simp only [c3, cel_ints, push_cast, simprocAttr, plcs_length, fP, pL, fE]
       refine (step_ok c' w' x.1.1.id x.2.1 (x.2.2.getD j 0) h').at [1, 2, 3, 4, 5, 6, 7, 8] (by simp [Tb, Ps, Psn, Ns, Cs, Csn, fRc, fP, pL, fE, errD, errF, pgetD, nodeD, sl, sbl, ren_none, ren_var, ren_arr, ren_map, ren_mapb, ren_iter, ren_loop, ren_defr, bel_none, bel_var, bel_arr, bel_map, bel_mapb, bel_iter, bel_loop, bel_defr, AV.renL, AV.ren, AV.belL, AV.bel, rn]) (by simp) (by simp [Tb, Ps, Psn, Ns, Cs, Csn, fRc, fP, pL, fE, errD, errF, pgetD, nodeD, sl]) (by simp [Tb, Ps, Psn, Ns, Cs, Csn, fRc, fP, pL, fE, errD, errF, pgetD, nodeD, sl, AV.ren, AV.renL, rn]) (by simp [AV.belL, AV.bel]) ?_
       simp only [Cs, fRc, sj, push_cast, simprocAttr, plcs_length, fP, pL, fE]
       obtain ⟨s1, s2⟩ := rcStep_len w' x.1.1.id x.2.1 (x.2.2.getD j 0)
       exact ⟨x.2.2.length - (j + 1), by omega, WK.fgt (t' := (.d (.slice 2 (nds nodes)) :: .d (.slice 11 (plcs ps)) :: .x :: .x :: .d .nilp :: .pvar 0 0 :: .pvar 8 0 :: .pvar 9 0 :: .x :: .d (.int .i64 (i : Nat)) :: .pvar 10 0 :: .d (.int .i64 (j + 1 : Nat)) :: xs101)) (by simp [fgt]) (WK.now ⟨j + 1, _, _, rfl, by omega, h'.step _ _ _, by omega, ⟨by rw [s2]; exact hnl'.1, hnl'.2.step _ _ _⟩, rfl, rfl, rfl⟩)⟩
      ·have c3 : ¬ j < x.2.2.length := by simpa using b3
       simp only [sc, push_cast, simprocAttr, plcs_length, fP, pL, fE]
       exact ⟨ps.length - (i + 1), by omega, WK.fgt (t' := (.d (.slice 2 (nds nodes)) :: .d (.slice 11 (plcs ps)) :: .x :: .x :: .d .nilp :: .pvar 0 0 :: .pvar 8 0 :: .pvar 9 0 :: .x :: .d (.int .i64 (i + 1 : Nat)) :: xs103)) (by simp [fgt]) (WK.pick [0, 1, 2, 3, 4, 5, 6, 7, 8, 9] (t' := (.d (.slice 2 (nds nodes)) :: .d (.slice 11 (plcs ps)) :: .x :: .x :: .d .nilp :: .pvar 0 0 :: .pvar 8 0 :: .pvar 9 0 :: .x :: .d (.int .i64 (i + 1 : Nat)) :: xs103)) (H' := Bs c' w') (by simp [Bs, sbl, ren_none, ren_var, ren_arr, ren_map, bel_none, bel_var, bel_arr, bel_map, AV.renL, AV.ren, AV.belL, AV.bel, rn]) (by simp) (by simp) (by simp [tellL, AV.ren, AV.renL, AV.bel, AV.belL, rn]) (by simp) (WK.now ⟨i + 1, c', w', rfl, by omega, h', hpl', hnl', rfl, rfl, rfl⟩))⟩
     | none =>
      refine (csubmit_new c x.1 h.ok hsz he).at [1, 2, 3, 4, 5, 6, 7, 8] (by simp [Tb, Ps, Psn, Ns, Cs, Csn, fRc, fP, pL, fE, errD, errF, pgetD, nodeD, sl, sbl, ren_none, ren_var, ren_arr, ren_map, ren_mapb, ren_iter, ren_loop, ren_defr, bel_none, bel_var, bel_arr, bel_map, bel_mapb, bel_iter, bel_loop, bel_defr, AV.renL, AV.ren, AV.belL, AV.bel, rn]) (by simp) (by simp [Tb, Ps, Psn, Ns, Cs, Csn, fRc, fP, pL, fE, errD, errF, pgetD, nodeD, sl]) (by simp [Tb, Ps, Psn, Ns, Cs, Csn, fRc, fP, pL, fE, errD, errF, pgetD, nodeD, sl, AV.ren, AV.renL, rn]) (by simp [AV.belL, AV.bel]) (WK.now ?_)
      simp only [Csn, push_cast, simprocAttr, plcs_length, fP, pL, fE]
      refine ALoop.mk (fun k t H ds => ∃ (j : Nat) (c' : Cl) (w' : Rc), k = x.2.2.length - j ∧ j ≤ x.2.2.length ∧ RC c' w' ∧ w'.pods.length ≤ i + 1 ∧ NdPr w' ∧ t = (.d (.slice 2 (nds nodes)) :: .d (.slice 11 (plcs ps)) :: .x :: .x :: .d .nilp :: .pvar 0 0 :: .pvar 8 0 :: .pvar 9 0 :: .x :: .d (.int .i64 (i : Nat)) :: .pvar 10 0 :: .d (.int .i64 (j : Nat)) :: xs101) ∧ H = Bs c' w' ++ [xV x] ∧ ds = []) x.2.2.length
       (WK.fgt (t' := (.d (.slice 2 (nds nodes)) :: .d (.slice 11 (plcs ps)) :: .x :: .x :: .d .nilp :: .pvar 0 0 :: .pvar 8 0 :: .pvar 9 0 :: .x :: .d (.int .i64 (i : Nat)) :: .pvar 10 0 :: .d (.int .i64 (0 : Nat)) :: xs101)) (by simp [fgt]) (WK.pick [0, 1, 2, 3, 11, 5, 6, 7, 8, 9, 10] (t' := (.d (.slice 2 (nds nodes)) :: .d (.slice 11 (plcs ps)) :: .x :: .x :: .d .nilp :: .pvar 0 0 :: .pvar 8 0 :: .pvar 9 0 :: .x :: .d (.int .i64 (i : Nat)) :: .pvar 10 0 :: .d (.int .i64 (0 : Nat)) :: xs101)) (H' := Bs (clSubmit c x.1).1 (rcSubmit w x.1) ++ [xV x]) (by simp [Bs, xV, xL, sbl, ren_none, ren_var, ren_arr, ren_map, bel_none, bel_var, bel_arr, bel_map, AV.renL, AV.ren, AV.belL, AV.bel, rn]) (by simp) (by simp) (by simp [tellL, AV.ren, AV.renL, AV.bel, AV.belL, rn]) (by simp)
        (WK.now ⟨0, (clSubmit c x.1).1, rcSubmit w x.1, by omega, by omega, hrc, by omega, ⟨by rw [r1]; exact hnl.1, hnl.2.submit hprx⟩, rfl, rfl, rfl⟩))) ?_
      clear hrc r1 r2 h hsub
      rintro k t H ds ⟨j, c', w', rfl, hj, h', hpl', hnl', rfl, rfl, rfl⟩
      simp only [Bs, xV, xL, push_cast, simprocAttr, plcs_length, fP, pL, fE]
      refine Kbr.mk (fun b3 => ?_) (fun b3 => ?_)
      ·have c3 : j < x.2.2.length := by simpa using b3
       have sj : IntKind.wrap .i64 ((j : Int) + 1) = ((j + 1 : Nat) : Int) := by rw [wrapi (by omega) (by omega)]; rfl
       simp only [c3, cel_ints, push_cast, simprocAttr, plcs_length, fP, pL, fE]
       refine DRegL.det [12, 13] [0, 1, 2, 3, 4, 5, 6, 7, 8, 9, 10, 11] [(12, [], []), (13, [], [])] (by kernel_rfl) (by kernel_rfl) (by kernel_rfl) ?_
       simp only [c3, cel_ints, push_cast, simprocAttr, plcs_length, fP, pL, fE]
       refine (step_ok c' w' x.1.1.id x.2.1 (x.2.2.getD j 0) h').at [1, 2, 3, 4, 5, 6, 7, 8] (by simp [Tb, Ps, Psn, Ns, Cs, Csn, fRc, fP, pL, fE, errD, errF, pgetD, nodeD, sl, sbl, ren_none, ren_var, ren_arr, ren_map, ren_mapb, ren_iter, ren_loop, ren_defr, bel_none, bel_var, bel_arr, bel_map, bel_mapb, bel_iter, bel_loop, bel_defr, AV.renL, AV.ren, AV.belL, AV.bel, rn]) (by simp) (by simp [Tb, Ps, Psn, Ns, Cs, Csn, fRc, fP, pL, fE, errD, errF, pgetD, nodeD, sl]) (by simp [Tb, Ps, Psn, Ns, Cs, Csn, fRc, fP, pL, fE, errD, errF, pgetD, nodeD, sl, AV.ren, AV.renL, rn]) (by simp [AV.belL, AV.bel]) ?_
       simp only [Cs, fRc, sj, push_cast, simprocAttr, plcs_length, fP, pL, fE]
       obtain ⟨s1, s2⟩ := rcStep_len w' x.1.1.id x.2.1 (x.2.2.getD j 0)
       exact ⟨x.2.2.length - (j + 1), by omega, WK.fgt (t' := (.d (.slice 2 (nds nodes)) :: .d (.slice 11 (plcs ps)) :: .x :: .x :: .d .nilp :: .pvar 0 0 :: .pvar 8 0 :: .pvar 9 0 :: .x :: .d (.int .i64 (i : Nat)) :: .pvar 10 0 :: .d (.int .i64 (j + 1 : Nat)) :: xs101)) (by simp [fgt]) (WK.now ⟨j + 1, _, _, rfl, by omega, h'.step _ _ _, by omega, ⟨by rw [s2]; exact hnl'.1, hnl'.2.step _ _ _⟩, rfl, rfl, rfl⟩)⟩
      ·have c3 : ¬ j < x.2.2.length := by simpa using b3
       simp only [sc, push_cast, simprocAttr, plcs_length, fP, pL, fE]
       exact ⟨ps.length - (i + 1), by omega, WK.fgt (t' := (.d (.slice 2 (nds nodes)) :: .d (.slice 11 (plcs ps)) :: .x :: .x :: .d .nilp :: .pvar 0 0 :: .pvar 8 0 :: .pvar 9 0 :: .x :: .d (.int .i64 (i + 1 : Nat)) :: xs103)) (by simp [fgt]) (WK.pick [0, 1, 2, 3, 4, 5, 6, 7, 8, 9] (t' := (.d (.slice 2 (nds nodes)) :: .d (.slice 11 (plcs ps)) :: .x :: .x :: .d .nilp :: .pvar 0 0 :: .pvar 8 0 :: .pvar 9 0 :: .x :: .d (.int .i64 (i + 1 : Nat)) :: xs103)) (H' := Bs c' w') (by simp [Bs, sbl, ren_none, ren_var, ren_arr, ren_map, bel_none, bel_var, bel_arr, bel_map, AV.renL, AV.ren, AV.belL, AV.bel, rn]) (by simp) (by simp) (by simp [tellL, AV.ren, AV.renL, AV.bel, AV.belL, rn]) (by simp) (WK.now ⟨i + 1, c', w', rfl, by omega, h', hpl', hnl', rfl, rfl, rfl⟩))⟩
  ·have c2 : ¬ i < ps.length := by simpa using b
   simp only [push_cast, simprocAttr, plcs_length, fP, pL, fE]
   refine DRegL.det [3] [0, 1, 2] [(3, [], [])] (by kernel_rfl) (by kernel_rfl) (by kernel_rfl) ?_
   simp only [push_cast, simprocAttr, plcs_length, fP, pL, fE]
   refine WK.now ?_
   simp only [push_cast, simprocAttr, plcs_length, fP, pL, fE]
   exact .inr ⟨c, w, rfl, h, hnl.1, by omega, hnl.2, _, rfl⟩
theorem build_okP (nodes : List (Int × List Int)) (ps : List Plc) : ACalls env 11 [.d (.slice 2 (nds nodes)), .d (.slice 11 (plcs ps))] []
  fun r H' => (∃ x y z, r = .d (.tup [.nilp, .agg [x, y, z]]) ∧ H' = []) ∨ ∃ c w, r = .tup [.pvar 7 0, .d (fRc w)] ∧ H' = Cs c ∧ RC c w ∧ w.nodes.length ≤ 20 ∧ w.pods.length ≤ 40 ∧ PrOk w.pods :=
 (build_raw nodes ps).retell (by
  rintro r H' (⟨x, y, z, rfl⟩ | ⟨c, w, rfl, h, hn, hp, hpr, l, rfl⟩)
  ·exact WK.pick [] (t' := [.d (.tup [.nilp, .agg [x, y, z]])]) (H' := []) trivial (by simp) (by simp) (by simp [tellL, AV.ren, AV.renL, AV.bel, AV.belL, rn]) (by simp) (WK.now ⟨_, rfl, .inl ⟨x, y, z, rfl, rfl⟩⟩)
  ·exact WK.pick [1, 2, 3, 4, 5, 6, 7, 8] (t' := [.tup [.pvar 7 0, .d (fRc w)]]) (H' := Cs c) (by simp [Bs, Cs, sbl, ren_none, ren_var, ren_arr, ren_map, bel_none, bel_var, bel_arr, bel_map, AV.renL, AV.ren, AV.belL, AV.bel, rn]) (by simp) (by simp [Bs]) (by simp [tellL, AV.ren, AV.renL, AV.bel, AV.belL, rn]) (by simp)
    (WK.now ⟨_, rfl, .inr ⟨c, w, rfl, rfl, h, hn, hp, hpr⟩⟩))
end Go.Proofs.YtmeicgbddgeeoaaGreatDoor
end
section
set_option autoImplicit false
set_option linter.unusedVariables false
set_option linter.unusedSimpArgs false
namespace Go.Proofs.YtmeicgbddgeeoaaGreatDoor
open Go.Abs
def SeesP (p q : Pod) (n : Int) : Prop := q.1.ph = 2 ∧ q.1.nd = n ∧ q.1.id ≠ p.1.id ∧ p.1.pr ≤ q.1.pr
theorem sees_ok (p q : Pod) (n : Int) : PCall env 186 [fP p, fP q, .int .i64 n] (.bool (B (SeesP p q n))) := by
 refine acalls_of envOk Tryz.func186 rfl (by kernel_rfl) (m := 27) rfl ?_
 by_cases h1 : q.1.ph = 2
 ·by_cases h2 : q.1.nd = n
  ·by_cases h3 : q.1.id = p.1.id
   ·have e1 : (q.1.ph == 2) = true := by simpa using h1
    have e2 : (q.1.nd == n) = true := by simpa using h2
    have e3 : (q.1.id != p.1.id) = false := by simpa using h3
    simp only [e1, e2, e3, push_cast, simprocAttr, fP, pL]
    refine WK.now ?_
    simp only [push_cast, simprocAttr, fP, pL]
    rw [B_false fun h => h.2.2.1 h3]
   ·have e1 : (q.1.ph == 2) = true := by simpa using h1
    have e2 : (q.1.nd == n) = true := by simpa using h2
    have e3 : (q.1.id != p.1.id) = true := by simpa using h3
    simp only [e1, e2, e3, push_cast, simprocAttr, fP, pL]
    refine WK.now ?_
    simp only [push_cast, simprocAttr, fP, pL]
    by_cases h4 : p.1.pr ≤ q.1.pr
    ·rw [B_true ⟨h1, h2, h3, h4⟩, decide_eq_true (show q.1.pr ≥ p.1.pr from h4)]
    ·rw [B_false fun h => h4 h.2.2.2, decide_eq_false (show ¬ q.1.pr ≥ p.1.pr from h4)]
  ·have e1 : (q.1.ph == 2) = true := by simpa using h1
   have e2 : (q.1.nd == n) = false := by simpa using h2
   simp only [e1, e2, push_cast, simprocAttr, fP, pL]
   refine WK.now ?_
   simp only [push_cast, simprocAttr, fP, pL]
   rw [B_false fun h => h2 h.2.1]
 ·have e1 : (q.1.ph == 2) = false := by simpa using h1
  simp only [e1, push_cast, simprocAttr, fP, pL]
  refine WK.now ?_
  simp only [push_cast, simprocAttr, fP, pL]
  rw [B_false fun h => h1 h.1]
def PV (p : Pod) : AObj := .var ((pL p).map .d)
theorem pods1_ok (p q : Pod) (n : Int) : ACalls env 185 [.d (fP q), .pvar 0 0, .pvar 1 0] [PV p, .var [.d (.int .i64 n)]] fun r H' => r = .d (.bool (!(B (SeesP p q n)))) ∧ H' = [PV p, .var [.d (.int .i64 n)]] := by
 unfold PV
 refine ACalls.cutTo [0, 1] rfl ?_ (fun l => by simp [PV, Tb, Ps, Psn, Ns, Cs, Csn, fP, pL, fE, errD, errF, pgetD, nodeD, sl, pods_length, sbl, ren_none, ren_var, ren_arr, ren_map, ren_mapb, ren_iter, ren_loop, ren_defr, bel_none, bel_var, bel_arr, bel_map, bel_mapb, bel_iter, bel_loop, bel_defr, AV.renL, AV.ren, AV.belL, AV.bel, rn]) (fun m => by simp [tellL, AV.ren, AV.renL, AV.bel, AV.belL, rn])
 refine acalls_of envOk Tryz.func185 rfl (by kernel_rfl) (m := 7) rfl ?_
 simp only [push_cast, simprocAttr, fP, pL]
 refine (sees_ok p q n).go (by first | exact ⟨.inl rfl, trivial⟩ | exact ⟨.inl rfl, .inl rfl, trivial⟩ | exact ⟨.inl rfl, .inl rfl, .inl rfl, trivial⟩ | simp [argsOk, argOk, sl, sll]) (WK.now ?_)
 simp only [push_cast, simprocAttr, fP, pL]
 refine WK.now ?_
 simp only [push_cast, simprocAttr, fP, pL]
 first | done | exact ⟨_, rfl⟩ | exact ⟨rfl, _, rfl⟩
/-! Lists -/
def IdxR (h : Pod → Bool) (xs : List Pod) (k : Int) : Prop := (k = -1 ∧ ∀ j, j < xs.length → h (xs.getD j pz) = false) ∨
 ∃ i : Nat, k = i ∧ i < xs.length ∧ (∀ j, j < i → h (xs.getD j pz) = false) ∧ h (xs.getD i pz) = true
def idxH (h : Pod → Bool) (xs : List Pod) : Int := if xs.findIdx h < xs.length then xs.findIdx h else -1
theorem idxH_at {h : Pod → Bool} {xs : List Pod} {i : Nat} (hi : i < xs.length) (hn : ∀ j, j < i → h (xs.getD j pz) = false) (hy : h (xs.getD i pz) = true) : idxH h xs = i := by
 have e : xs.findIdx h = i := by
  rw [List.findIdx_eq hi]
  rw [List.getD_eq_getElem?_getD, List.getElem?_eq_getElem hi, Option.getD_some] at hy
  refine ⟨hy, fun j hj => ?_⟩
  have := hn j hj
  rwa [List.getD_eq_getElem?_getD, List.getElem?_eq_getElem (by omega), Option.getD_some] at this
 unfold idxH
 rw [e, if_pos hi]
theorem idxH_no {h : Pod → Bool} {xs : List Pod} (hn : ∀ j, j < xs.length → h (xs.getD j pz) = false) : idxH h xs = -1 := by
 unfold idxH
 rw [if_neg]
 rw [List.findIdx_lt_length]
 rintro ⟨x, hx, hh⟩
 obtain ⟨j, hj, rfl⟩ := List.getElem_of_mem hx
 have := hn j hj
 rw [List.getD_eq_getElem?_getD, List.getElem?_eq_getElem hj, Option.getD_some, hh] at this
 cases this
theorem idxH_spec (h : Pod → Bool) (xs : List Pod) : IdxR h xs (idxH h xs) := by
 by_cases hlt : xs.findIdx h < xs.length
 ·refine .inr ⟨xs.findIdx h, by unfold idxH; rw [if_pos hlt], hlt, fun j hj => ?_, ?_⟩
  ·have := List.not_of_lt_findIdx hj
   rw [List.getD_eq_getElem?_getD, List.getElem?_eq_getElem (by omega), Option.getD_some]
   simpa using this
  ·rw [List.getD_eq_getElem?_getD, List.getElem?_eq_getElem hlt, Option.getD_some]
   exact List.findIdx_getElem
 ·refine .inl ⟨by unfold idxH; rw [if_neg hlt], fun j hj => ?_⟩
  rw [List.findIdx_lt_length] at hlt
  rw [List.getD_eq_getElem?_getD, List.getElem?_eq_getElem hj, Option.getD_some]
  cases hh : h xs[j] with
  | false => rfl
  | true => exact absurd ⟨_, List.getElem_mem hj, hh⟩ hlt
def keepL (h : Pod → Bool) (xs : List Pod) : List Pod := xs.filter fun q => !h q
theorem keep_snoc (h : Pod → Bool) {xs : List Pod} {i : Nat} (hi : i < xs.length) : keepL h (xs.take (i + 1)) = keepL h (xs.take i) ++ (if h (xs.getD i pz) then [] else [xs.getD i pz]) := by
 unfold keepL
 rw [List.take_add_one, List.filter_append, List.getElem?_eq_getElem hi, Option.toList_some, List.getD_eq_getElem?_getD, List.getElem?_eq_getElem hi, Option.getD_some]
 cases hh : h xs[i] <;> simp [hh]
theorem keep_all (h : Pod → Bool) {xs : List Pod} (hn : ∀ j, j < xs.length → h (xs.getD j pz) = false) : keepL h xs = xs := by
 unfold keepL
 rw [List.filter_eq_self]
 intro a ha
 obtain ⟨j, hj, rfl⟩ := List.getElem_of_mem ha
 have := hn j hj
 rw [List.getD_eq_getElem?_getD, List.getElem?_eq_getElem hj, Option.getD_some] at this
 rw [this]; rfl
theorem keep_first (h : Pod → Bool) {xs : List Pod} {i : Nat} (hi : i < xs.length) (hn : ∀ j, j < i → h (xs.getD j pz) = false) (hy : h (xs.getD i pz) = true) : xs.take i = keepL h (xs.take (i + 1)) := by
 rw [keep_snoc h hi, hy, if_pos rfl, List.append_nil, keep_all]
 intro j hj
 simp only [List.length_take] at hj
 have := hn j (by omega)
 rwa [List.getD_eq_getElem?_getD, List.getElem?_take, if_pos (by omega), ← List.getD_eq_getElem?_getD]
theorem getD_drop {xs ys : List Pod} {j : Nat} (h : ys.drop j = xs.drop j) : ys.getD j pz = xs.getD j pz := by
 have := congrArg (fun l : List Pod => l[0]?) h
 simp only [List.getElem?_drop, Nat.add_zero] at this
 simp only [List.getD_eq_getElem?_getD, this]
theorem set_take {ys : List Pod} {i : Nat} {q : Pod} (h : i < ys.length) : (ys.set i q).take (i + 1) = ys.take i ++ [q] := by
 rw [List.take_add_one, List.getElem?_set_self (by simpa using h), List.take_set_of_le (Nat.le_refl _)]
 rfl
theorem set_drop {xs ys : List Pod} {i j : Nat} {q : Pod} (hi : i ≤ j) (h : ys.drop j = xs.drop j) : (ys.set i q).drop (j + 1) = xs.drop (j + 1) := by
 rw [List.drop_set_of_lt (by omega)]
 have := congrArg (List.drop 1) h
 rwa [List.drop_drop, List.drop_drop] at this
theorem upd_row {l : List Pod} {i : Nat} {q : Pod} (h : i < l.length) : updN (pods l) i 0 (pL q) = pods (l.set i q) := by
 unfold updN pods splice
 rw [List.getD_eq_getElem?_getD, List.getElem?_map, List.getElem?_eq_getElem h]
 simp [List.map_set, pL]
set_option maxRecDepth 8000 in
theorem idxA_ok (xs : List Pod) (hs : Sz xs) (p : Pod) (n : Int) (g : FuncId) (hx : env.ext g = none) (h : Pod → Bool)
  (hg : ∀ q, ACalls env g [.d (fP q), .pvar 0 0, .pvar 1 0] [PV p, .var [.d (.int .i64 n)]] fun r H' => r = .d (.bool (h q)) ∧ H' = [PV p, .var [.d (.int .i64 n)]]) :
  ACalls env 46 [.sfull 0, .func g [.pvar 1 0, .pvar 2 0]] [.arr 26 9 (pods xs), PV p, .var [.d (.int .i64 n)]]
  fun r H' => r = .d (.int .i64 (idxH h xs)) ∧ H' = [.arr 26 9 (pods xs), PV p, .var [.d (.int .i64 n)]] := by
 unfold PV at hg ⊢
 unfold Sz at hs
 refine acalls_of envOk Tryz.func46 rfl (by kernel_rfl) (m := 17) rfl ?_
 simp only [push_cast, simprocAttr, fP, pL]
 refine ALoop.mk (fun k t H ds => ∃ i : Nat, k = xs.length - i ∧ i ≤ xs.length ∧ (∀ j, j < i → h (xs.getD j pz) = false) ∧ t = (.sfull 0 :: .func g [.pvar 1 0, .pvar 2 0] :: .x :: .x :: .d (.int .i64 0) :: .x :: .x :: .d (.int .i64 xs.length) :: .d (.int .i64 (i : Nat)) :: xs10) ∧ H = [.arr 26 9 (pods xs), PV p, .var [.d (.int .i64 n)]] ∧ ds = []) xs.length
  (WK.fgt (t' := (.sfull 0 :: .func g [.pvar 1 0, .pvar 2 0] :: .x :: .x :: .d (.int .i64 0) :: .x :: .x :: .d (.int .i64 xs.length) :: .d (.int .i64 (0 : Nat)) :: xs10)) (by simp [fgt]) (WK.now ⟨0, by omega, by omega, by omega, rfl, rfl, rfl⟩)) ?_
 rintro k t H ds ⟨i, rfl, hi, hp, rfl, rfl, rfl⟩
 simp only [PV, push_cast, simprocAttr, fP, pL]
 refine Kbr.mk (fun c => ?_) (fun c => ?_)
 ·have c2 : i < xs.length := by simpa using c
  simp only [c2, seg_pods, hx, push_cast, simprocAttr, fP, pL]
  refine (hg (xs.getD i pz)).at [1, 2] (by simp [PV, Tb, Ps, Psn, Ns, Cs, Csn, fP, pL, fE, errD, errF, pgetD, nodeD, sl, pods_length, sbl, ren_none, ren_var, ren_arr, ren_map, ren_mapb, ren_iter, ren_loop, ren_defr, bel_none, bel_var, bel_arr, bel_map, bel_mapb, bel_iter, bel_loop, bel_defr, AV.renL, AV.ren, AV.belL, AV.bel, rn]) (by simp) (by simp [PV, Tb, Ps, Psn, Ns, Cs, Csn, fP, pL, fE, errD, errF, pgetD, nodeD, sl, pods_length]) (by simp [PV, Tb, Ps, Psn, Ns, Cs, Csn, fP, pL, fE, errD, errF, pgetD, nodeD, sl, pods_length, AV.ren, AV.renL, rn]) (by simp [AV.belL, AV.bel]) (WK.now ?_)
  simp only [push_cast, simprocAttr, fP, pL]
  refine Kbr.mk (fun c => ?_) (fun c => ?_)
  ·have c3 : h (xs.getD i pz) = true := by simpa using c
   simp only [push_cast, simprocAttr, fP, pL]
   refine WK.now ?_
   simp only [push_cast, simprocAttr, fP, pL]
   simp only [idxH_at c2 hp c3, push_cast, simprocAttr, pods_length, fP, pL]
  ·have c3 : h (xs.getD i pz) = false := by simpa using c
   simp only [succ64 c2 (show xs.length ≤ 4611686018427387904 by omega), push_cast, simprocAttr, pods_length, fP, pL]
   refine ⟨xs.length - (i + 1), by omega, WK.fgt (t' := (.sfull 0 :: .func g [.pvar 1 0, .pvar 2 0] :: .x :: .x :: .d (.int .i64 0) :: .x :: .x :: .d (.int .i64 xs.length) :: .d (.int .i64 (i + 1 : Nat)) :: xs10)) (by simp [fgt]) (WK.now ⟨i + 1, rfl, by omega, fun j hj => ?_, rfl, rfl, rfl⟩)⟩
   rcases Nat.lt_succ_iff_lt_or_eq.1 hj with hj | rfl
   ·exact hp j hj
   ·exact c3
 ·have c2 : ¬ i < xs.length := by simpa using c
  simp only [push_cast, simprocAttr, fP, pL]
  refine WK.now ?_
  simp only [push_cast, simprocAttr, fP, pL]
  simp only [idxH_no (fun j hj => hp j (by omega)), push_cast, simprocAttr, pods_length, fP, pL]
set_option maxRecDepth 8000 in
theorem delA_ok (xs : List Pod) (hs : Sz xs) (p : Pod) (n : Int) (g : FuncId) (hx : env.ext g = none) (h : Pod → Bool)
  (hg : ∀ q, ACalls env g [.d (fP q), .pvar 0 0, .pvar 1 0] [PV p, .var [.d (.int .i64 n)]] fun r H' => r = .d (.bool (h q)) ∧ H' = [PV p, .var [.d (.int .i64 n)]]) :
  ACalls env 50 [.sfull 0, .func g [.pvar 1 0, .pvar 2 0]] [.arr 26 9 (pods xs), PV p, .var [.d (.int .i64 n)]]
  fun r H' => r = .d (.slice 9 (pods (keepL h xs))) ∧ H' = [.none, PV p, .var [.d (.int .i64 n)]] := by
 unfold Sz at hs
 refine acalls_of envOk Tryz.func50 rfl (by kernel_rfl) (m := 40) rfl ?_
 simp only [push_cast, simprocAttr, fP, pL]
 refine (idxA_ok xs hs p n g hx h hg).at [0, 1, 2] (by simp [PV, Tb, Ps, Psn, Ns, Cs, Csn, fP, pL, fE, errD, errF, pgetD, nodeD, sl, pods_length, sbl, ren_none, ren_var, ren_arr, ren_map, ren_mapb, ren_iter, ren_loop, ren_defr, bel_none, bel_var, bel_arr, bel_map, bel_mapb, bel_iter, bel_loop, bel_defr, AV.renL, AV.ren, AV.belL, AV.bel, rn]) (by simp) (by simp [PV, Tb, Ps, Psn, Ns, Cs, Csn, fP, pL, fE, errD, errF, pgetD, nodeD, sl, pods_length]) (by simp [PV, Tb, Ps, Psn, Ns, Cs, Csn, fP, pL, fE, errD, errF, pgetD, nodeD, sl, pods_length, AV.ren, AV.renL, rn]) (by simp [AV.belL, AV.bel]) (WK.now ?_)
 simp only [PV, push_cast, simprocAttr, fP, pL]
 rcases idxH_spec h xs with ⟨hk, hno⟩ | ⟨i0, hk, hi0, hno, hyes⟩
 ·simp only [hk, show ((-1 : Int) == -1) = true from rfl, push_cast, simprocAttr, pods_length, fP, pL]
  refine WK.frz 0 rfl (WK.now ?_)
  simp only [keep_all h hno, push_cast, simprocAttr, pods_length, fP, pL]
 ·have hne : ((i0 : Int) == -1) = false := beq_eq_false_iff_ne.2 (by omega)
  have sc0 : IntKind.wrap .i64 ((i0 : Int) + 1) = ((i0 + 1 : Nat) : Int) := by rw [wrapi (by omega) (by omega)]; rfl
  simp only [hk, hne, sc0, push_cast, simprocAttr, fP, pL]
  refine ALoop.mk (fun k t H ds => ∃ (i j : Nat) (ys : List Pod), k = xs.length - j ∧ j ≤ xs.length ∧ i < j ∧ ys.length = xs.length ∧ ys.take i = keepL h (xs.take j) ∧ ys.drop j = xs.drop j ∧ t = (.sfull 0 :: .func g [.pvar 1 0, .pvar 2 0] :: .x :: .x :: .x :: .d (.int .i64 (i : Nat)) :: .d (.int .i64 (j : Nat)) :: xs35) ∧ H = [.arr 26 9 (pods ys), PV p, .var [.d (.int .i64 n)]] ∧ ds = []) (xs.length - (i0 + 1))
   (WK.fgt (t' := (.sfull 0 :: .func g [.pvar 1 0, .pvar 2 0] :: .x :: .x :: .x :: .d (.int .i64 (i0 : Nat)) :: .d (.int .i64 (i0 + 1 : Nat)) :: xs35)) (by simp [fgt]) (WK.now ⟨i0, i0 + 1, xs, by omega, by omega, by omega, rfl, keep_first h hi0 hno hyes, rfl, rfl, rfl, rfl⟩)) ?_
  clear hk hi0 hno hyes hne sc0
  rintro k t H ds ⟨i, j, ys, rfl, hj, hij, hyl, htk, hdr, rfl, rfl, rfl⟩
  simp only [PV, hyl, push_cast, simprocAttr, fP, pL]
  refine Kbr.mk (fun c => ?_) (fun c => ?_)
  ·have c2 : j < xs.length := by simpa using c
   have hq := getD_drop hdr
   simp only [hyl, c2, seg_pods, hq, hx, push_cast, simprocAttr, fP, pL]
   refine (hg (xs.getD j pz)).at [1, 2] (by simp [PV, Tb, Ps, Psn, Ns, Cs, Csn, fP, pL, fE, errD, errF, pgetD, nodeD, sl, pods_length, sbl, ren_none, ren_var, ren_arr, ren_map, ren_mapb, ren_iter, ren_loop, ren_defr, bel_none, bel_var, bel_arr, bel_map, bel_mapb, bel_iter, bel_loop, bel_defr, AV.renL, AV.ren, AV.belL, AV.bel, rn]) (by simp) (by simp [PV, Tb, Ps, Psn, Ns, Cs, Csn, fP, pL, fE, errD, errF, pgetD, nodeD, sl, pods_length]) (by simp [PV, Tb, Ps, Psn, Ns, Cs, Csn, fP, pL, fE, errD, errF, pgetD, nodeD, sl, pods_length, AV.ren, AV.renL, rn]) (by simp [AV.belL, AV.bel]) (WK.now ?_)
   have hks := keep_snoc h c2
   have sj := succ64 c2 (show xs.length ≤ 4611686018427387904 by omega)
   cases hh : h (xs.getD j pz) with
   | true =>
    rw [hh, if_pos rfl, List.append_nil] at hks
    simp only [sj, push_cast, simprocAttr, fP, pL]
    exact ⟨xs.length - (j + 1), by omega, WK.fgt (t' := (.sfull 0 :: .func g [.pvar 1 0, .pvar 2 0] :: .x :: .x :: .x :: .d (.int .i64 (i : Nat)) :: .d (.int .i64 (j + 1 : Nat)) :: xs35)) (by simp [fgt]) (WK.pick [0, 1, 2] (t' := (.sfull 0 :: .func g [.pvar 1 0, .pvar 2 0] :: .x :: .x :: .x :: .d (.int .i64 (i : Nat)) :: .d (.int .i64 (j + 1 : Nat)) :: xs35)) (H' := [.arr 26 9 (pods ys), PV p, .var [.d (.int .i64 n)]]) (by simp [PV, pL, sbl, ren_none, ren_var, ren_arr, bel_none, bel_var, bel_arr, AV.renL, AV.ren, AV.belL, AV.bel, rn]) (by simp) (by simp) (by simp [tellL, AV.ren, AV.renL, AV.bel, AV.belL, rn]) (by decide) (WK.now ⟨i, j + 1, ys, rfl, by omega, by omega, hyl, by rw [hks]; exact htk, by
     have := congrArg (List.drop 1) hdr
     rwa [List.drop_drop, List.drop_drop] at this, rfl, rfl, rfl⟩))⟩
   | false =>
    rw [hh, if_neg (by simp)] at hks
    have si := succ64 (show i < xs.length by omega) (show xs.length ≤ 4611686018427387904 by omega)
    have hiy : i < ys.length := by omega
    have hup := upd_row (q := xs.getD j pz) hiy
    unfold pL at hup
    simp only [sj, si, hup, hiy, hyl, show i < xs.length by omega, push_cast, simprocAttr, pods_length, fP, pL]
    exact ⟨xs.length - (j + 1), by omega, WK.fgt (t' := (.sfull 0 :: .func g [.pvar 1 0, .pvar 2 0] :: .x :: .x :: .x :: .d (.int .i64 (i + 1 : Nat)) :: .d (.int .i64 (j + 1 : Nat)) :: xs35)) (by simp [fgt]) (WK.pick [0, 1, 2] (t' := (.sfull 0 :: .func g [.pvar 1 0, .pvar 2 0] :: .x :: .x :: .x :: .d (.int .i64 (i + 1 : Nat)) :: .d (.int .i64 (j + 1 : Nat)) :: xs35)) (H' := [.arr 26 9 (pods (ys.set i (xs.getD j pz))), PV p, .var [.d (.int .i64 n)]]) (by simp [PV, pL, sbl, ren_none, ren_var, ren_arr, bel_none, bel_var, bel_arr, AV.renL, AV.ren, AV.belL, AV.bel, rn]) (by simp) (by simp) (by simp [tellL, AV.ren, AV.renL, AV.bel, AV.belL, rn]) (by decide) (WK.now ⟨i + 1, j + 1, ys.set i (xs.getD j pz), rfl, by omega, by omega, by simpa using hyl, by rw [set_take hiy, hks, htk], set_drop (by omega) hdr, rfl, rfl, rfl⟩))⟩
  ·have c2 : ¬ j < xs.length := by simpa using c
   obtain rfl : j = xs.length := by omega
   have hil : i ≤ ys.length := by omega
   simp only [hyl, push_cast, simprocAttr, fP, pL]
   have key : ∀ Z W : List (List D), (List.take i (pods ys) ++ Z ++ W).take ((i : Int) - 0).toNat = pods (keepL h xs) := fun Z W => by
    rw [show ((i : Int) - 0).toNat = i by omega, List.append_assoc, List.take_left' (by simp [pods_length]; omega)]
    unfold pods
    rw [← List.map_take, htk, List.take_length]
   refine ⟨by omega, by omega, by omega, by simp [pods_length]; omega, WK.frzpart 4 0 rfl rfl (by simp [pods_length]; omega) (WK.now ?_)⟩
   simp only [push_cast, simprocAttr, fP, pL]
   rw [key]
set_option maxRecDepth 8000 in
theorem idxB_ok (xs : List Pod) (hs : Sz xs) (g : FuncId) (hx : env.ext g = none) (h : Pod → Bool)
  (hg : ∀ q, PCall env g [fP q] (.bool (h q))) :
  ACalls env 46 [.sfull 0, .d (.func g [])] [.arr 26 9 (pods xs)]
  fun r H' => r = .d (.int .i64 (idxH h xs)) ∧ H' = [.arr 26 9 (pods xs)] := by
 unfold Sz at hs
 refine acalls_of envOk Tryz.func46 rfl (by kernel_rfl) (m := 17) rfl ?_
 simp only [push_cast, simprocAttr, fP, pL]
 refine ALoop.mk (fun k t H ds => ∃ i : Nat, k = xs.length - i ∧ i ≤ xs.length ∧ (∀ j, j < i → h (xs.getD j pz) = false) ∧ t = (.sfull 0 :: .d (.func g []) :: .x :: .x :: .d (.int .i64 0) :: .x :: .x :: .d (.int .i64 xs.length) :: .d (.int .i64 (i : Nat)) :: xs10) ∧ H = [.arr 26 9 (pods xs)] ∧ ds = []) xs.length
  (WK.fgt (t' := (.sfull 0 :: .d (.func g []) :: .x :: .x :: .d (.int .i64 0) :: .x :: .x :: .d (.int .i64 xs.length) :: .d (.int .i64 (0 : Nat)) :: xs10)) (by simp [fgt]) (WK.now ⟨0, by omega, by omega, by omega, rfl, rfl, rfl⟩)) ?_
 rintro k t H ds ⟨i, rfl, hi, hp, rfl, rfl, rfl⟩
 simp only [push_cast, simprocAttr, fP, pL]
 refine Kbr.mk (fun c => ?_) (fun c => ?_)
 ·have c2 : i < xs.length := by simpa using c
  simp only [c2, seg_pods, hx, push_cast, simprocAttr, fP, pL]
  refine (hg (xs.getD i pz)).go (by first | exact ⟨.inl rfl, trivial⟩ | exact ⟨.inl rfl, .inl rfl, trivial⟩ | exact ⟨.inl rfl, .inl rfl, .inl rfl, trivial⟩ | simp [argsOk, argOk, sl, sll]) (WK.now ?_)
  simp only [push_cast, simprocAttr, fP, pL]
  refine Kbr.mk (fun c => ?_) (fun c => ?_)
  ·have c3 : h (xs.getD i pz) = true := by simpa using c
   simp only [push_cast, simprocAttr, fP, pL]
   refine WK.now ?_
   simp only [push_cast, simprocAttr, fP, pL]
   simp only [idxH_at c2 hp c3, push_cast, simprocAttr, pods_length, fP, pL]
  ·have c3 : h (xs.getD i pz) = false := by simpa using c
   simp only [succ64 c2 (show xs.length ≤ 4611686018427387904 by omega), push_cast, simprocAttr, pods_length, fP, pL]
   refine ⟨xs.length - (i + 1), by omega, WK.fgt (t' := (.sfull 0 :: .d (.func g []) :: .x :: .x :: .d (.int .i64 0) :: .x :: .x :: .d (.int .i64 xs.length) :: .d (.int .i64 (i + 1 : Nat)) :: xs10)) (by simp [fgt]) (WK.now ⟨i + 1, rfl, by omega, fun j hj => ?_, rfl, rfl, rfl⟩)⟩
   rcases Nat.lt_succ_iff_lt_or_eq.1 hj with hj | rfl
   ·exact hp j hj
   ·exact c3
 ·have c2 : ¬ i < xs.length := by simpa using c
  simp only [push_cast, simprocAttr, fP, pL]
  refine WK.now ?_
  simp only [push_cast, simprocAttr, fP, pL]
  simp only [idxH_no (fun j hj => hp j (by omega)), push_cast, simprocAttr, pods_length, fP, pL]
set_option maxRecDepth 8000 in
theorem delB_ok (xs : List Pod) (hs : Sz xs) (g : FuncId) (hx : env.ext g = none) (h : Pod → Bool)
  (hg : ∀ q, PCall env g [fP q] (.bool (h q))) :
  ACalls env 50 [.sfull 0, .d (.func g [])] [.arr 26 9 (pods xs)]
  fun r H' => r = .d (.slice 9 (pods (keepL h xs))) ∧ H' = [.none] := by
 unfold Sz at hs
 refine acalls_of envOk Tryz.func50 rfl (by kernel_rfl) (m := 40) rfl ?_
 simp only [push_cast, simprocAttr, fP, pL]
 refine (idxB_ok xs hs g hx h hg).at [0] (by simp [PV, Tb, Ps, Psn, Ns, Cs, Csn, fP, pL, fE, errD, errF, pgetD, nodeD, sl, pods_length, sbl, ren_none, ren_var, ren_arr, ren_map, ren_mapb, ren_iter, ren_loop, ren_defr, bel_none, bel_var, bel_arr, bel_map, bel_mapb, bel_iter, bel_loop, bel_defr, AV.renL, AV.ren, AV.belL, AV.bel, rn]) (by simp) (by simp [PV, Tb, Ps, Psn, Ns, Cs, Csn, fP, pL, fE, errD, errF, pgetD, nodeD, sl, pods_length]) (by simp [PV, Tb, Ps, Psn, Ns, Cs, Csn, fP, pL, fE, errD, errF, pgetD, nodeD, sl, pods_length, AV.ren, AV.renL, rn]) (by simp [AV.belL, AV.bel]) (WK.now ?_)
 simp only [push_cast, simprocAttr, fP, pL]
 rcases idxH_spec h xs with ⟨hk, hno⟩ | ⟨i0, hk, hi0, hno, hyes⟩
 ·simp only [hk, show ((-1 : Int) == -1) = true from rfl, push_cast, simprocAttr, pods_length, fP, pL]
  refine WK.frz 0 rfl (WK.now ?_)
  simp only [keep_all h hno, push_cast, simprocAttr, pods_length, fP, pL]
 ·have hne : ((i0 : Int) == -1) = false := beq_eq_false_iff_ne.2 (by omega)
  have sc0 : IntKind.wrap .i64 ((i0 : Int) + 1) = ((i0 + 1 : Nat) : Int) := by rw [wrapi (by omega) (by omega)]; rfl
  simp only [hk, hne, sc0, push_cast, simprocAttr, fP, pL]
  refine ALoop.mk (fun k t H ds => ∃ (i j : Nat) (ys : List Pod), k = xs.length - j ∧ j ≤ xs.length ∧ i < j ∧ ys.length = xs.length ∧ ys.take i = keepL h (xs.take j) ∧ ys.drop j = xs.drop j ∧ t = (.sfull 0 :: .d (.func g []) :: .x :: .x :: .x :: .d (.int .i64 (i : Nat)) :: .d (.int .i64 (j : Nat)) :: xs35) ∧ H = [.arr 26 9 (pods ys)] ∧ ds = []) (xs.length - (i0 + 1))
   (WK.fgt (t' := (.sfull 0 :: .d (.func g []) :: .x :: .x :: .x :: .d (.int .i64 (i0 : Nat)) :: .d (.int .i64 (i0 + 1 : Nat)) :: xs35)) (by simp [fgt]) (WK.now ⟨i0, i0 + 1, xs, by omega, by omega, by omega, rfl, keep_first h hi0 hno hyes, rfl, rfl, rfl, rfl⟩)) ?_
  clear hk hi0 hno hyes hne sc0
  rintro k t H ds ⟨i, j, ys, rfl, hj, hij, hyl, htk, hdr, rfl, rfl, rfl⟩
  simp only [hyl, push_cast, simprocAttr, fP, pL]
  refine Kbr.mk (fun c => ?_) (fun c => ?_)
  ·have c2 : j < xs.length := by simpa using c
   have hq := getD_drop hdr
   simp only [hyl, c2, seg_pods, hq, hx, push_cast, simprocAttr, fP, pL]
   refine (hg (xs.getD j pz)).go (by first | exact ⟨.inl rfl, trivial⟩ | exact ⟨.inl rfl, .inl rfl, trivial⟩ | exact ⟨.inl rfl, .inl rfl, .inl rfl, trivial⟩ | simp [argsOk, argOk, sl, sll]) (WK.now ?_)
   have hks := keep_snoc h c2
   have sj := succ64 c2 (show xs.length ≤ 4611686018427387904 by omega)
   cases hh : h (xs.getD j pz) with
   | true =>
    rw [hh, if_pos rfl, List.append_nil] at hks
    simp only [sj, push_cast, simprocAttr, fP, pL]
    exact ⟨xs.length - (j + 1), by omega, WK.fgt (t' := (.sfull 0 :: .d (.func g []) :: .x :: .x :: .x :: .d (.int .i64 (i : Nat)) :: .d (.int .i64 (j + 1 : Nat)) :: xs35)) (by simp [fgt]) (WK.pick [0] (t' := (.sfull 0 :: .d (.func g []) :: .x :: .x :: .x :: .d (.int .i64 (i : Nat)) :: .d (.int .i64 (j + 1 : Nat)) :: xs35)) (H' := [.arr 26 9 (pods ys)]) (by simp [PV, pL, sbl, ren_none, ren_var, ren_arr, bel_none, bel_var, bel_arr, AV.renL, AV.ren, AV.belL, AV.bel, rn]) (by simp) (by simp) (by simp [tellL, AV.ren, AV.renL, AV.bel, AV.belL, rn]) (by decide) (WK.now ⟨i, j + 1, ys, rfl, by omega, by omega, hyl, by rw [hks]; exact htk, by
     have := congrArg (List.drop 1) hdr
     rwa [List.drop_drop, List.drop_drop] at this, rfl, rfl, rfl⟩))⟩
   | false =>
    rw [hh, if_neg (by simp)] at hks
    have si := succ64 (show i < xs.length by omega) (show xs.length ≤ 4611686018427387904 by omega)
    have hiy : i < ys.length := by omega
    have hup := upd_row (q := xs.getD j pz) hiy
    unfold pL at hup
    simp only [sj, si, hup, hiy, hyl, show i < xs.length by omega, push_cast, simprocAttr, pods_length, fP, pL]
    exact ⟨xs.length - (j + 1), by omega, WK.fgt (t' := (.sfull 0 :: .d (.func g []) :: .x :: .x :: .x :: .d (.int .i64 (i + 1 : Nat)) :: .d (.int .i64 (j + 1 : Nat)) :: xs35)) (by simp [fgt]) (WK.pick [0] (t' := (.sfull 0 :: .d (.func g []) :: .x :: .x :: .x :: .d (.int .i64 (i + 1 : Nat)) :: .d (.int .i64 (j + 1 : Nat)) :: xs35)) (H' := [.arr 26 9 (pods (ys.set i (xs.getD j pz)))]) (by simp [PV, pL, sbl, ren_none, ren_var, ren_arr, bel_none, bel_var, bel_arr, AV.renL, AV.ren, AV.belL, AV.bel, rn]) (by simp) (by simp) (by simp [tellL, AV.ren, AV.renL, AV.bel, AV.belL, rn]) (by decide) (WK.now ⟨i + 1, j + 1, ys.set i (xs.getD j pz), rfl, by omega, by omega, by simpa using hyl, by rw [set_take hiy, hks, htk], set_drop (by omega) hdr, rfl, rfl, rfl⟩))⟩
  ·have c2 : ¬ j < xs.length := by simpa using c
   obtain rfl : j = xs.length := by omega
   have hil : i ≤ ys.length := by omega
   simp only [hyl, push_cast, simprocAttr, fP, pL]
   have key : ∀ Z W : List (List D), (List.take i (pods ys) ++ Z ++ W).take ((i : Int) - 0).toNat = pods (keepL h xs) := fun Z W => by
    rw [show ((i : Int) - 0).toNat = i by omega, List.append_assoc, List.take_left' (by simp [pods_length]; omega)]
    unfold pods
    rw [← List.map_take, htk, List.take_length]
   refine ⟨by omega, by omega, by omega, by simp [pods_length]; omega, WK.frzpart 4 0 rfl rfl (by simp [pods_length]; omega) (WK.now ?_)⟩
   simp only [push_cast, simprocAttr, fP, pL]
   rw [key]
end Go.Proofs.YtmeicgbddgeeoaaGreatDoor
end
section
set_option autoImplicit false
set_option linter.unusedVariables false
set_option linter.unusedSimpArgs false
namespace Go.Proofs.YtmeicgbddgeeoaaGreatDoor
open Go.Abs
theorem ClOk.sees {c : Cl} (h : ClOk c) : SeesAll c := ⟨h.L, h.i, h.hin⟩
theorem listed_len (L : List (Int × Pod)) (h : Pod → Bool) (ids : List Int) : (listed L h ids).length ≤ ids.length := by
 unfold listed
 refine Nat.le_trans (List.length_filter_le _ _) ?_
 simp
noncomputable def seenL (c : Cl) (p : Pod) (n : Int) : List Pod := keepL (fun q => !(B (SeesP p q n))) (listed c.L (onP n) c.ids)
set_option maxRecDepth 8000 in
theorem pods_ok (c : Cl) (p : Pod) (n : Int) (h : ClOk c) : ACalls env 176 [.pvar 7 0, .d (fP p), .d (.int .i64 n)] (Cs c) fun r H' => r = .d (.slice 9 (pods (seenL c p n))) ∧ H' = Cs c := by
 have hs : Sz (listed c.L (onP n) c.ids) := by
  have := listed_len c.L (onP n) c.ids
  have := h.i
  unfold Sz at *; omega
 unfold Cs
 refine ACalls.cutTo [0, 1, 2, 3, 4, 5, 6, 7] rfl ?_ (fun l => by simp [PV, Tb, Ps, Psn, Ns, Cs, Csn, fP, pL, fE, errD, errF, pgetD, nodeD, sl, pods_length, sbl, ren_none, ren_var, ren_arr, ren_map, ren_mapb, ren_iter, ren_loop, ren_defr, bel_none, bel_var, bel_arr, bel_map, bel_mapb, bel_iter, bel_loop, bel_defr, AV.renL, AV.ren, AV.belL, AV.bel, rn]) (fun m => by simp [tellL, AV.ren, AV.renL, AV.bel, AV.belL, rn])
 refine acalls_of envOk Tryz.func176 rfl (by kernel_rfl) (m := 9) rfl ?_
 simp only [push_cast, simprocAttr, fP, pL]
 refine (con_ok c n h.sees).at [0, 1, 2, 3, 4, 5, 6, 7] (by simp [PV, Tb, Ps, Psn, Ns, Cs, Csn, fP, pL, fE, errD, errF, pgetD, nodeD, sl, pods_length, sbl, ren_none, ren_var, ren_arr, ren_map, ren_mapb, ren_iter, ren_loop, ren_defr, bel_none, bel_var, bel_arr, bel_map, bel_mapb, bel_iter, bel_loop, bel_defr, AV.renL, AV.ren, AV.belL, AV.bel, rn]) (by simp) (by simp [PV, Tb, Ps, Psn, Ns, Cs, Csn, fP, pL, fE, errD, errF, pgetD, nodeD, sl, pods_length]) (by simp [PV, Tb, Ps, Psn, Ns, Cs, Csn, fP, pL, fE, errD, errF, pgetD, nodeD, sl, pods_length, AV.ren, AV.renL, rn]) (by simp [AV.belL, AV.bel]) (WK.now ?_)
 simp only [Cs, push_cast, simprocAttr, fP, pL]
 refine (delA_ok (listed c.L (onP n) c.ids) hs p n 185 rfl _ (fun q => pods1_ok p q n)).at [10, 8, 9] (by simp [PV, Tb, Ps, Psn, Ns, Cs, Csn, fP, pL, fE, errD, errF, pgetD, nodeD, sl, pods_length, sbl, ren_none, ren_var, ren_arr, ren_map, ren_mapb, ren_iter, ren_loop, ren_defr, bel_none, bel_var, bel_arr, bel_map, bel_mapb, bel_iter, bel_loop, bel_defr, AV.renL, AV.ren, AV.belL, AV.bel, rn]) (by simp) (by simp [PV, Tb, Ps, Psn, Ns, Cs, Csn, fP, pL, fE, errD, errF, pgetD, nodeD, sl, pods_length]) (by simp [PV, Tb, Ps, Psn, Ns, Cs, Csn, fP, pL, fE, errD, errF, pgetD, nodeD, sl, pods_length, AV.ren, AV.renL, rn]) (by simp [AV.belL, AV.bel]) (WK.now ?_)
 simp only [PV, push_cast, simprocAttr, fP, pL]
 refine WK.now ?_
 simp only [push_cast, simprocAttr, fP, pL]
 exact ⟨rfl, _, rfl⟩
def ownS (c : Cl) (id : Int) : Option Int := (lget c.L id).bind fun p => if p.1.ph = 2 then some p.1.nd else none
end Go.Proofs.YtmeicgbddgeeoaaGreatDoor
end
section
set_option autoImplicit false
set_option linter.unusedVariables false
set_option linter.unusedSimpArgs false
namespace Go.Proofs.YtmeicgbddgeeoaaGreatDoor
open Go.Abs
def reqs (l : List Pod) : List (List Int) := l.map (·.2)
theorem reqs_length (l : List Pod) : (reqs l).length = l.length := by simp [reqs]
theorem reqs_snoc {l : List Pod} {i : Nat} (h : i < l.length) : reqs (l.take (i + 1)) = reqs (l.take i) ++ [(l.getD i pz).2] := by
 unfold reqs
 rw [List.take_add_one, List.map_append, List.getElem?_eq_getElem h, List.getD_eq_getElem?_getD, List.getElem?_eq_getElem h]
 rfl
theorem intss_snoc (l : List (List Int)) (v : List Int) : intss l ++ [[D.slice 1 (ints v)]] = intss (l ++ [v]) := by simp [intss, sl]
def sumR : Option (List Int) → D
 | some v => sl v
 | none => .nils
theorem mem_listed {c : Cl} (h : ClOk c) {f : Pod → Bool} {q : Pod} (hq : q ∈ listed c.L f c.ids) : ∃ k, lget c.L k = some q := by
 unfold listed at hq
 obtain ⟨k, hk, rfl⟩ := List.mem_map.1 ((List.mem_filter.1 hq).1)
 obtain ⟨p, hp⟩ := Option.isSome_iff_exists.1 (h.hin k hk)
 exact ⟨k, by rw [hp]; rfl⟩
theorem mem_seen {c : Cl} {p q : Pod} {n : Int} (hq : q ∈ seenL c p n) : q ∈ listed c.L (onP n) c.ids := (List.mem_filter.1 hq).1
noncomputable def zrow (d : Int) : List Int := List.replicate (max d 0).toNat 0
theorem rows_ok {c : Cl} (h : ClOk c) {l : List Pod} (hl : ∀ q ∈ l, ∃ k, lget c.L k = some q) : (∀ j, Sz ((zrow c.d :: reqs l).getD j [])) ∧ InRs (zrow c.d :: reqs l) := by
 have key : ∀ j, Sz ((zrow c.d :: reqs l).getD j []) ∧ InR ((zrow c.d :: reqs l).getD j []) := fun j => by
  cases j with
  | zero =>
   have := h.d
   refine ⟨by show Sz (zrow c.d); unfold Sz zrow; simp; omega, ?_⟩
   show InR (zrow c.d)
   refine inR_of fun x hx => ?_
   unfold zrow at hx
   rw [List.eq_of_mem_replicate hx]
   unfold I64; omega
  | succ j =>
   rw [List.getD_cons_succ]
   unfold reqs
   rw [List.getD_eq_getElem?_getD, List.getElem?_map]
   cases hj : l[j]? with
   | none => exact ⟨by unfold Sz; simp, fun k => by simp [I64]⟩
   | some q =>
    obtain ⟨k, hk⟩ := hl q (List.mem_of_getElem? hj)
    exact ⟨h.L k q hk, h.R k q hk⟩
 exact ⟨fun j => (key j).1, fun j => (key j).2⟩
set_option maxRecDepth 8000 in
set_option maxHeartbeats 1000000 in
theorem ssum_ok (c : Cl) (p : Pod) (n : Int) (h : ClOk c) (h65 : c.ids.length ≤ 65536) : ACalls env 148 [.pvar 7 0, .d (fP p), .d (.int .i64 n)] (Cs c) fun r H' => r = .d (sumR (addS (zrow c.d :: reqs (seenL c p n)))) ∧ H' = Cs c := by
 obtain ⟨l, hl⟩ : ∃ l, l = seenL c p n := ⟨_, rfl⟩
 have hmem : ∀ q ∈ l, ∃ k, lget c.L k = some q := fun q hq => mem_listed h (mem_seen (by rw [← hl]; exact hq))
 have hll : l.length ≤ 65536 := by
  have h1 := listed_len c.L (onP n) c.ids
  have h2 := h.i
  have h3 : l.length ≤ (listed c.L (onP n) c.ids).length := by rw [hl]; exact List.length_filter_le _ _
  omega
 have hd := h.d
 have hpods := pods_ok c p n h
 rw [← hl] at hpods ⊢
 unfold Cs
 refine ACalls.cutTo [0, 1, 2, 3, 4, 5, 6, 7] rfl ?_ (fun l => by simp [PV, Tb, Ps, Psn, Ns, Cs, Csn, fP, pL, fE, errD, errF, pgetD, nodeD, sl, pods_length, sbl, ren_none, ren_var, ren_arr, ren_map, ren_mapb, ren_iter, ren_loop, ren_defr, bel_none, bel_var, bel_arr, bel_map, bel_mapb, bel_iter, bel_loop, bel_defr, AV.renL, AV.ren, AV.belL, AV.bel, rn]) (fun m => by simp [tellL, AV.ren, AV.renL, AV.bel, AV.belL, rn])
 refine acalls_of envOk Tryz.func148 rfl (by kernel_rfl) (m := 34) rfl ?_
 simp only [push_cast, simprocAttr, fP, pL]
 refine (cdims_ok c).at [0, 1, 2, 3, 4, 5, 6, 7] (by simp [PV, Tb, Ps, Psn, Ns, Cs, Csn, fP, pL, fE, errD, errF, pgetD, nodeD, sl, pods_length, sbl, ren_none, ren_var, ren_arr, ren_map, ren_mapb, ren_iter, ren_loop, ren_defr, bel_none, bel_var, bel_arr, bel_map, bel_mapb, bel_iter, bel_loop, bel_defr, AV.renL, AV.ren, AV.belL, AV.bel, rn]) (by simp) (by simp [PV, Tb, Ps, Psn, Ns, Cs, Csn, fP, pL, fE, errD, errF, pgetD, nodeD, sl, pods_length]) (by simp [PV, Tb, Ps, Psn, Ns, Cs, Csn, fP, pL, fE, errD, errF, pgetD, nodeD, sl, pods_length, AV.ren, AV.renL, rn]) (by simp [AV.belL, AV.bel]) (WK.now ?_)
 simp only [Cs, push_cast, simprocAttr, fP, pL]
 refine (zero_ok c.d hd).go (by first | exact ⟨.inl rfl, trivial⟩ | exact ⟨.inl rfl, .inl rfl, trivial⟩ | exact ⟨.inl rfl, .inl rfl, .inl rfl, trivial⟩ | simp [argsOk, argOk, sl, sll]) (WK.now ?_)
 simp only [push_cast, simprocAttr, fP, pL]
 refine hpods.at [0, 1, 2, 3, 4, 5, 6, 7] (by simp [PV, Tb, Ps, Psn, Ns, Cs, Csn, fP, pL, fE, errD, errF, pgetD, nodeD, sl, pods_length, sbl, ren_none, ren_var, ren_arr, ren_map, ren_mapb, ren_iter, ren_loop, ren_defr, bel_none, bel_var, bel_arr, bel_map, bel_mapb, bel_iter, bel_loop, bel_defr, AV.renL, AV.ren, AV.belL, AV.bel, rn]) (by simp) (by simp [PV, Tb, Ps, Psn, Ns, Cs, Csn, fP, pL, fE, errD, errF, pgetD, nodeD, sl, pods_length]) (by simp [PV, Tb, Ps, Psn, Ns, Cs, Csn, fP, pL, fE, errD, errF, pgetD, nodeD, sl, pods_length, AV.ren, AV.renL, rn]) (by simp [AV.belL, AV.bel]) (WK.now ?_)
 simp only [Cs, push_cast, simprocAttr, fP, pL]
 refine ALoop.mk (fun k t H ds => ∃ i : Nat, k = l.length - i ∧ i ≤ l.length ∧ ((i = 0 ∧ t = (.pvar 7 0 :: .x :: .x :: .x :: .pvar 8 0 :: .x :: .x :: .svalf 1 [[.slice 1 (ints (zrow c.d))]] :: .x :: .x :: .x :: .x :: .x :: .x :: .x :: .x :: .x :: .x :: .x :: .d (.slice 9 (pods l)) :: .d (.int .i64 l.length) :: .d (.int .i64 (0 : Nat)) :: xs15) ∧ H = Cs c ++ [PV p]) ∨ (0 < i ∧ t = (.pvar 7 0 :: .x :: .x :: .x :: .pvar 8 0 :: .x :: .x :: .sfull 9 :: .x :: .x :: .x :: .x :: .x :: .x :: .x :: .x :: .x :: .x :: .x :: .d (.slice 9 (pods l)) :: .d (.int .i64 l.length) :: .d (.int .i64 (i : Nat)) :: xs15) ∧ H = Cs c ++ [PV p, .arr 24 1 (intss (zrow c.d :: reqs (l.take i)))])) ∧ ds = []) l.length
  (WK.fgt (t' := (.pvar 7 0 :: .x :: .x :: .x :: .pvar 8 0 :: .x :: .x :: .svalf 1 [[.slice 1 (ints (zrow c.d))]] :: .x :: .x :: .x :: .x :: .x :: .x :: .x :: .x :: .x :: .x :: .x :: .d (.slice 9 (pods l)) :: .d (.int .i64 l.length) :: .d (.int .i64 (0 : Nat)) :: xs15)) (by simp [fgt, zrow]) (WK.now ⟨0, by omega, by omega, .inl ⟨rfl, rfl, rfl⟩, rfl⟩)) ?_
 rintro k t H ds ⟨i, rfl, hi, ⟨rfl, rfl, rfl⟩ | ⟨hi0, rfl, rfl⟩, rfl⟩
 ·simp only [Cs, PV, push_cast, simprocAttr, fP, pL]
  refine Kbr.mk (fun b => ?_) (fun b => ?_)
  ·have c2 : 0 < l.length := by simpa using b
   have e0 : [[D.slice 1 (ints (zrow c.d))], [D.slice 1 (ints (l.getD 0 pz).2)]] = intss (zrow c.d :: reqs (l.take 1)) := by
    rw [show l.take 1 = l.take (0 + 1) from rfl, reqs_snoc c2]; rfl
   have w1 : IntKind.wrap .i64 1 = 1 := wrapi (by omega) (by omega)
   simp only [c2, seg_pods, e0, w1, push_cast, simprocAttr, fP, pL]
   refine ⟨by omega, .inl trivial, room_of (by omega) (by omega), l.length - 1, by omega, WK.fgt (t' := (.pvar 7 0 :: .x :: .x :: .x :: .pvar 8 0 :: .x :: .x :: .sfull 10 :: .x :: .x :: .x :: .x :: .x :: .x :: .x :: .x :: .x :: .x :: .x :: .d (.slice 9 (pods l)) :: .d (.int .i64 l.length) :: .d (.int .i64 (1 : Nat)) :: xs15)) (by simp [fgt, w1]) (WK.pick [0, 1, 2, 3, 4, 5, 6, 7, 8, 10] (t' := (.pvar 7 0 :: .x :: .x :: .x :: .pvar 8 0 :: .x :: .x :: .sfull 9 :: .x :: .x :: .x :: .x :: .x :: .x :: .x :: .x :: .x :: .x :: .x :: .d (.slice 9 (pods l)) :: .d (.int .i64 l.length) :: .d (.int .i64 (1 : Nat)) :: xs15)) (H' := Cs c ++ [PV p, .arr 24 1 (intss (zrow c.d :: reqs (l.take 1)))]) (by simp [Cs, PV, pL, sbl, ren_none, ren_var, ren_arr, ren_map, bel_none, bel_var, bel_arr, bel_map, AV.renL, AV.ren, AV.belL, AV.bel, rn]) (by simp) (by simp) (by simp [tellL, AV.ren, AV.renL, AV.bel, AV.belL, rn]) (by decide) (WK.now ⟨1, rfl, by omega, .inr ⟨by omega, rfl, rfl⟩, rfl⟩))⟩
  ·have c2 : ¬ 0 < l.length := by simpa using b
   have hnil : l = [] := List.eq_nil_of_length_eq_zero (by omega)
   simp only [push_cast, simprocAttr, fP, pL]
   obtain ⟨k1, k2⟩ := rows_ok h hmem
   refine (vadd_ok (zrow c.d :: reqs l) (by unfold Sz; simp [reqs_length]; omega) k1 k2).go (by rw [hnil]; simp [argsOk, argOk, sll, intss, sl, reqs]) (WK.now ?_)
   cases ha : addS (zrow c.d :: reqs l) with
   | none =>
    simp only [resS, push_cast, simprocAttr, fP, pL]
    refine WK.now ?_
    simp only [sumR, push_cast, simprocAttr, fP, pL]
    first | done | exact ⟨_, rfl⟩ | exact ⟨rfl, _, rfl⟩
   | some v =>
    simp only [resS, push_cast, simprocAttr, fP, pL]
    refine WK.now ?_
    simp only [sumR, push_cast, simprocAttr, fP, pL]
    first | done | exact ⟨_, rfl⟩ | exact ⟨rfl, _, rfl⟩
 ·simp only [Cs, PV, push_cast, simprocAttr, fP, pL]
  refine Kbr.mk (fun b => ?_) (fun b => ?_)
  ·have c2 : i < l.length := by simpa using b
   have e1 : intss (zrow c.d :: reqs (l.take i)) ++ [[D.slice 1 (ints (l.getD i pz).2)]] = intss (zrow c.d :: reqs (l.take (i + 1))) := by
    rw [reqs_snoc c2, intss_snoc]; rfl
   have si := succ64 c2 (show l.length ≤ 4611686018427387904 by omega)
   simp only [c2, seg_pods, e1, si, push_cast, simprocAttr, fP, pL]
   refine ⟨room_of (by simp [reqs_length, intss_length]; omega) (by omega), l.length - (i + 1), by omega, WK.fgt (t' := (.pvar 7 0 :: .x :: .x :: .x :: .pvar 8 0 :: .x :: .x :: .sfull 11 :: .x :: .x :: .x :: .x :: .x :: .x :: .x :: .x :: .x :: .x :: .x :: .d (.slice 9 (pods l)) :: .d (.int .i64 l.length) :: .d (.int .i64 (i + 1 : Nat)) :: xs15)) (by simp [fgt]) (WK.pick [0, 1, 2, 3, 4, 5, 6, 7, 8, 11] (t' := (.pvar 7 0 :: .x :: .x :: .x :: .pvar 8 0 :: .x :: .x :: .sfull 9 :: .x :: .x :: .x :: .x :: .x :: .x :: .x :: .x :: .x :: .x :: .x :: .d (.slice 9 (pods l)) :: .d (.int .i64 l.length) :: .d (.int .i64 (i + 1 : Nat)) :: xs15)) (H' := Cs c ++ [PV p, .arr 24 1 (intss (zrow c.d :: reqs (l.take (i + 1))))]) (by simp [Cs, PV, pL, sbl, ren_none, ren_var, ren_arr, ren_map, bel_none, bel_var, bel_arr, bel_map, AV.renL, AV.ren, AV.belL, AV.bel, rn]) (by simp) (by simp) (by simp [tellL, AV.ren, AV.renL, AV.bel, AV.belL, rn]) (by decide) (WK.now ⟨i + 1, rfl, by omega, .inr ⟨by omega, rfl, rfl⟩, rfl⟩))⟩
  ·have c2 : ¬ i < l.length := by simpa using b
   have e : l.take i = l := List.take_of_length_le (by omega)
   rw [e]
   simp only [push_cast, simprocAttr, fP, pL]
   obtain ⟨k1, k2⟩ := rows_ok h hmem
   refine (vadd_ok (zrow c.d :: reqs l) (by unfold Sz; simp [reqs_length]; omega) k1 k2).frzgo 9 rfl (by simp [AV.frzL, AV.frz, argsOk, argOk, sll, sl]) (WK.now ?_)
   cases ha : addS (zrow c.d :: reqs l) with
   | none =>
    simp only [resS, push_cast, simprocAttr, fP, pL]
    refine WK.now ?_
    simp only [sumR, push_cast, simprocAttr, fP, pL]
    first | done | exact ⟨_, rfl⟩ | exact ⟨rfl, _, rfl⟩
   | some v =>
    simp only [resS, push_cast, simprocAttr, fP, pL]
    refine WK.now ?_
    simp only [sumR, push_cast, simprocAttr, fP, pL]
    first | done | exact ⟨_, rfl⟩ | exact ⟨rfl, _, rfl⟩
end Go.Proofs.YtmeicgbddgeeoaaGreatDoor
end
section
set_option autoImplicit false
set_option linter.unusedVariables false
set_option linter.unusedSimpArgs false
namespace Go.Proofs.YtmeicgbddgeeoaaGreatDoor
open Go.Abs
theorem cstate_nil : PCall env 75 [.nilp] (.agg [.nilp, .nilp]) := by
 refine acalls_of envOk Tryz.func75 rfl (by kernel_rfl) (m := 9) rfl ?_
 simp only [push_cast, simprocAttr, QasgL_normal, fP, pL]
 refine WK.now ?_
 simp only [push_cast, simprocAttr, QasgL_normal, fP, pL]
theorem all_nil (n : Int) (g : FuncId) : ACalls env 170 [.d .nilp, .func g [.pvar 0 0]] [.var [.d (.int .i64 n)]] fun r H' => r = .func 183 [.pvar 1 0, .pvar 2 0] ∧
   H' = [.var [.d (.int .i64 n)], .var [.d .nilp], .var [.func g [.pvar 0 0]]] := by
 refine acalls_of envOk Tryz.func170 rfl (by kernel_rfl) (m := 4) rfl ?_
 simp only [push_cast, simprocAttr, QasgL_normal, fP, pL]
 refine WK.now ?_
 simp only [push_cast, simprocAttr, QasgL_normal, fP, pL]
set_option maxRecDepth 8000 in
theorem list_nil (n : Int) (g : FuncId) (hx : env.ext g = none) :
  ACalls env 138 [.d .nilp, .func g [.pvar 0 0]] [.var [.d (.int .i64 n)]] fun r H' => r = .d .nils ∧ H' = [.var [.d (.int .i64 n)], .none] := by
 refine acalls_of envOk Tryz.func138 rfl (by kernel_rfl) (m := 14) rfl ?_
 simp only [push_cast, simprocAttr, QasgL_normal, fP, pL]
 refine (all_nil n g).at [0] (by simp [PV, Tb, Ps, Psn, Ns, Cs, Csn, fP, pL, fE, errD, errF, pgetD, nodeD, sl, pods_length, sbl, ren_none, ren_var, ren_arr, ren_map, ren_mapb, ren_iter, ren_loop, ren_defr, bel_none, bel_var, bel_arr, bel_map, bel_mapb, bel_iter, bel_loop, bel_defr, AV.renL, AV.ren, AV.belL, AV.bel, rn]) (by simp) (by simp [PV, Tb, Ps, Psn, Ns, Cs, Csn, fP, pL, fE, errD, errF, pgetD, nodeD, sl, pods_length]) (by simp [PV, Tb, Ps, Psn, Ns, Cs, Csn, fP, pL, fE, errD, errF, pgetD, nodeD, sl, pods_length, AV.ren, AV.renL, rn]) (by simp [AV.belL, AV.bel]) (WK.now ?_)
 simp only [push_cast, simprocAttr, QasgL_normal, fP, pL]
 refine ARng.funcG (fun fn lo hlo => ?_)
 simp only [push_cast, simprocAttr, QasgL_normal, fP, pL]
 refine acalls_of envOk Tryz.func183 rfl (by kernel_rfl) (m := 36) rfl ?_
 simp only [push_cast, simprocAttr, QasgL_normal, fP, pL]
 refine WK.now ?_
 simp only [push_cast, simprocAttr, QasgL_normal, fP, pL]
 subst hlo
 refine Krng.go rfl (WK.now ?_)
 simp only [push_cast, simprocAttr, QasgL_normal, fP, pL]
 refine WK.pickD [0, 4] (H' := [.var [.d (.int .i64 n)], .defr]) (t' := (.x :: .x :: .x :: .x :: .d .nils :: xs11)) (ds' := [1]) (by simp [ints, intss, sbl, ren_none, ren_var, ren_arr, ren_map, ren_mapb, ren_iter, ren_loop, ren_defr, bel_none, bel_var, bel_arr, bel_map, bel_mapb, bel_iter, bel_loop, bel_defr, AV.renL, AV.ren, AV.belL, AV.bel, rn]) (by simp) (by simp) (by simp [tellL, AV.ren, AV.renL, AV.bel, AV.belL, rn]) (by simp [rn]) (by simp) (by decide) (WK.now ?_)
 simp only [push_cast, simprocAttr, QasgL_normal, fP, pL]
theorem pOn_nil (n : Int) : PCall env 90 [.nilp, .int .i64 n] .nils := by
 refine acalls_of envOk Tryz.func90 rfl (by kernel_rfl) (m := 6) rfl ?_
 simp only [push_cast, simprocAttr, QasgL_normal, fP, pL]
 refine (list_nil n 139 rfl).at [0] (by simp [PV, Tb, Ps, Psn, Ns, Cs, Csn, fP, pL, fE, errD, errF, pgetD, nodeD, sl, pods_length, sbl, ren_none, ren_var, ren_arr, ren_map, ren_mapb, ren_iter, ren_loop, ren_defr, bel_none, bel_var, bel_arr, bel_map, bel_mapb, bel_iter, bel_loop, bel_defr, AV.renL, AV.ren, AV.belL, AV.bel, rn]) (by simp) (by simp [PV, Tb, Ps, Psn, Ns, Cs, Csn, fP, pL, fE, errD, errF, pgetD, nodeD, sl, pods_length]) (by simp [PV, Tb, Ps, Psn, Ns, Cs, Csn, fP, pL, fE, errD, errF, pgetD, nodeD, sl, pods_length, AV.ren, AV.renL, rn]) (by simp [AV.belL, AV.bel]) (WK.now ?_)
 simp only [push_cast, simprocAttr, QasgL_normal, fP, pL]
 refine WK.now ?_
 simp only [push_cast, simprocAttr, QasgL_normal, fP, pL]
theorem con_nil (n : Int) : PCall env 51 [.nilp, .int .i64 n] .nils := by
 refine acalls_of envOk Tryz.func51 rfl (by kernel_rfl) (m := 8) rfl ?_
 simp only [push_cast, simprocAttr, QasgL_normal, fP, pL]
 refine cstate_nil.go (by first | exact ⟨.inl rfl, trivial⟩ | exact ⟨.inl rfl, .inl rfl, trivial⟩ | exact ⟨.inl rfl, .inl rfl, .inl rfl, trivial⟩ | simp [argsOk, argOk, sl, sll]) (WK.now ?_)
 simp only [push_cast, simprocAttr, QasgL_normal, fP, pL]
 refine (pOn_nil n).go (by first | exact ⟨.inl rfl, trivial⟩ | exact ⟨.inl rfl, .inl rfl, trivial⟩ | exact ⟨.inl rfl, .inl rfl, .inl rfl, trivial⟩ | simp [argsOk, argOk, sl, sll]) (WK.now ?_)
 simp only [push_cast, simprocAttr, QasgL_normal, fP, pL]
 refine WK.now ?_
 simp only [push_cast, simprocAttr, QasgL_normal, fP, pL]
end Go.Proofs.YtmeicgbddgeeoaaGreatDoor
end
section
set_option autoImplicit false
set_option linter.unusedVariables false
set_option linter.unusedSimpArgs false
namespace Go.Proofs.YtmeicgbddgeeoaaGreatDoor
open Go.Abs
def al : Pod := (⟨3, 4, false, 0, 0, 2, 7, 0⟩, [])
theorem lget_one {α : Type} {a k : Int} {v p : α} (h : lget [(a, v)] k = some p) : p = v := by
 have := (lget_mem (by simp [NoDup])).1 h
 simp at this
 exact this.2
theorem ints_one (n : Int) : [[D.int .i64 n]] = ints [n] := rfl
end Go.Proofs.YtmeicgbddgeeoaaGreatDoor
end
section
set_option autoImplicit false
set_option linter.unusedVariables false
set_option linter.unusedSimpArgs false
namespace Go.Proofs.YtmeicgbddgeeoaaGreatDoor
open Go.Abs
section
variable {c : Cl} {w : Rc}
theorem RC.find (h : RC c w) {p : Pod} (hp : p ∈ w.pods) : findP w.pods p.1.id = some p := by
 rw [← lget_kv, lget_mem h.ndp]
 exact List.mem_map.2 ⟨p, hp, rfl⟩
theorem RC.listed (h : RC c w) (f : Pod → Bool) : listed c.L f c.ids = w.pods.filter f := by
 unfold Go.Proofs.YtmeicgbddgeeoaaGreatDoor.listed
 rw [h.ids, List.map_map]
 congr 1
 conv => rhs; rw [← List.map_id' w.pods]
 refine List.map_congr_left fun p hp => ?_
 simp only [Function.comp_apply, h.get, h.find hp, Option.getD_some]
theorem onP_iff {n : Int} {p : Pod} : onP n p = true ↔ p.1.nd = n ∧ (p.1.ph = 2 ∨ p.1.ph = 3 ∨ p.1.ph = 4) := by
 unfold onP
 rw [Bool.and_eq_true, decide_eq_true_iff, decide_eq_true_iff]
theorem RC.seen (h : RC c w) (p : Pod) (n : Int) : seenL c p n = w.pods.filter fun q => B (SeesP p q n) := by
 unfold seenL keepL
 rw [h.listed, List.filter_filter]
 refine List.filter_congr fun q _ => ?_
 cases hb : B (SeesP p q n) with
 | false => simp [hb]
 | true =>
  have := B_iff.1 hb
  rw [onP_iff.2 ⟨this.2.1, .inl this.1⟩]
  simp [hb]
theorem RC.own (h : RC c w) (id : Int) : ownS c id = (findP w.pods id).bind fun p => if p.1.ph = 2 then some p.1.nd else none := by
 unfold ownS
 rw [h.get]
theorem RC.len65 (h : RC c w) : c.ids.length ≤ 65536 := by rw [h.ids, List.length_map]; exact h.len
end
end Go.Proofs.YtmeicgbddgeeoaaGreatDoor
end
